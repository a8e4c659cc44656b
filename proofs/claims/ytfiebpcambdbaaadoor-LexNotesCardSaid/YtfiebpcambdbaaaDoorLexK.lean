/-
  What lex.Line and lex.Key answer.
-/
import Derived.Test.YtfiebpcambdbaaaDoorLexO
import Derived.Test.YtfiebpcambdbaaaDoorMapsS
set_option linter.unusedVariables false
set_option linter.unusedSimpArgs false
set_option maxHeartbeats 4000000
set_option maxRecDepth 8000
namespace Go.Proofs.YtfiebpcambdbaaaDoor
open Go.RowKit Go.Shelf Go.Proofs.YtfiebpcambdbaaaDoor.Lex
attribute [local irreducible] wpStill wpList Calls CallsIn

/-- The names that mean something of their own. -/
def keysB : List B := [[112, 117, 98, 108, 105, 99], [115, 101, 99, 114, 101, 116], [105, 110, 116], [98, 111, 111, 108], [98, 121], [108, 111, 99, 107], [102, 117, 110, 99], [114, 101, 116, 117, 114, 110], [116, 104, 114, 101, 97, 100], [118, 97, 114], [105, 102], [101, 108, 115, 101], [119, 104, 105, 108, 101], [111, 117, 116], [116, 114, 117, 101], [102, 97, 108, 115, 101]]
def keyB (s : B) : Bool := keysB.contains s

theorem ba_beq (x y : ByteArray) : (x == y) = true ↔ x = y := by
  constructor
  · intro h
    obtain ⟨a⟩ := x
    obtain ⟨b⟩ := y
    have : (a == b) = true := h
    simp at this
    subst this; rfl
  · rintro rfl
    obtain ⟨a⟩ := x
    show (a == a) = true
    simp
theorem look_keys (ks : List B) (s : B) : (lookS (ks.map fun k => (⟨k.toArray⟩, Value.bool true)) ⟨s.toArray⟩).getD (.bool false) = .bool (ks.contains s) := by
  induction ks with
  | nil => rfl
  | cons k ks ih =>
    unfold lookS at ih ⊢
    rw [List.map_cons, List.find?_cons]
    by_cases h : s = k
    · subst h
      have hb : ((⟨s.toArray⟩ : ByteArray) == ⟨s.toArray⟩) = true := (ba_beq _ _).2 rfl
      simp [hb]
    · have hb : ((⟨s.toArray⟩ : ByteArray) == ⟨k.toArray⟩) = false := by
        cases e : ((⟨s.toArray⟩ : ByteArray) == ⟨k.toArray⟩) with
        | false => rfl
        | true =>
          exfalso
          apply h
          have := congrArg (fun b : ByteArray => b.data.toList) ((ba_beq _ _).1 e)
          simpa using this
      have hb2 : (s == k) = false := by simpa using h
      simp only [hb, List.contains_cons, hb2, Bool.false_or]
      exact ih

theorem zBOOL : (Tryd.prog.info? 4).map (fun i => i.zero) = some (some (.bool false)) := by kernel_rfl
theorem key_is (s : B) (w : World) : Calls Tryd.prog 15 #[.string ⟨s.toArray⟩] w fun e w' => e = .returned (.bool (keyB s)) ∧ Fr (fun _ => False) w w' := by
  have hk := look_keys keysB s
  obtain ⟨K, hK⟩ : ∃ K, K = keysB.contains s := ⟨_, rfl⟩
  rw [← hK] at hk
  have HK := hid hk
  unfold keyB
  rw [← hK]
  clear hk hK
  obtain ⟨sv, hsv⟩ : ∃ sv : ByteArray, sv = ⟨s.toArray⟩ := ⟨_, rfl⟩
  rw [← hsv] at HK ⊢
  clear hsv
  have HM := hid (MapS.made w)
  have HF := hid (show Fr (fun _ => False) w (w.alloc (.map #[] 0)) by (with_reducible repeat' (first | exact Fr.refl _ _ | apply Fr.alloc | apply Fr.drew | apply Fr.drewN | refine Fr.setCell ?_ ?_ _)))
  have hmm := @run_makeMap Tryd.prog
  go_enter Tryd.func15, Tryd.ntmps15
  go_wp2_with (first | ((with_reducible apply wpList_insS (b := w.heap.size) Tryd.underlying50 Tryd.underlying9); (case zim => rfl); (case zix => rfl); (case ziv => rfl); (case zif => exact HM.out); (case zin => rfl); intro w1 hm hf; (have HM2 := hid hm); (have HF2 := hid (HF.out.trans hf (fun z hz e => by omega))); clear HM HF hm hf; (have HM := HM2); (have HF := HF2); clear HM2 HF2) | still_step | (with_reducible first | refine wpStill_nil ?_ | refine Flow.Both.mk ?_ ?_ | exact True.intro) | (with_reducible refine Flow.same_mk rfl rfl rfl ?_; go_simp; done) | (with_reducible exact Flow.same_un rfl rfl rfl) | (refine Flow.region_still mixed ?hB ?_; (case hB => decide +kernel)))
  have hl := run_lookS (l := keysB.map fun k => (⟨k.toArray⟩, Value.bool true)) Tryd.underlying50 Tryd.underlying9 HM.out sv (run_zero zBOOL w1)
  rw [HK.out] at hl
  rw [hl]
  simp only [Result.andThen, Oper.upon]
  clear hl
  go_wp2_with (first | still_step | (with_reducible first | refine wpStill_nil ?_ | refine Flow.Both.mk ?_ ?_ | exact True.intro) | (with_reducible refine Flow.same_mk rfl rfl rfl ?_; go_simp; done) | (with_reducible exact Flow.same_un rfl rfl rfl) | (refine Flow.region_still mixed ?hB ?_; (case hB => decide +kernel)))
  go_ret
  exact ⟨rfl, HF.out⟩

set_option maxHeartbeats 1000000 in
theorem line_is (l : B) (k : Nat) (w : World) (hs : l.length ≤ 1000000) :
    Calls Tryd.prog 13 #[.string ⟨l.toArray⟩, .int .i64 (k : Int)] w fun e w' => e = .returned (.tuple #[.int .i64 (lineP (l.take k)), .int .i64 (colP (l.take k))]) ∧ Fr (fun _ => False) w w' := by
  obtain ⟨u, hu⟩ : ∃ u, u = l.take k := ⟨_, rfl⟩
  rw [← hu]
  have hle : u.length ≤ l.length := by rw [hu, List.length_take]; omega
  obtain ⟨FV, hFV⟩ : ∃ FV : ByteArray, FV = ⟨u.toArray⟩ := ⟨_, rfl⟩
  obtain ⟨sv, hsv⟩ : ∃ sv : ByteArray, sv = ⟨l.toArray⟩ := ⟨_, rfl⟩
  rw [← hsv]
  have hsz : sv.size = l.length := by rw [hsv]; exact mk_size l
  have hx : sv.extract 0 (min (k : Int) (l.length : Int)).toNat = FV := by
    rw [hsv, mk_take, hFV, hu, show (min (k : Int) (l.length : Int)).toNat = min k l.length by omega, ← List.take_take, List.take_length]
  have hfz : FV.size = u.length := by rw [hFV]; exact mk_size u
  have hc := Tryd.strings_Count_one FV 10
  have hl := Tryd.strings_LastIndexByte FV 10 (by omega)
  have e1 : (Lib.countByte FV.data.toList 10 : Int) = lineP u - 1 := by rw [hFV]; unfold lineP Lib.countByte; simp
  have e2 : Lib.lastIndexByte FV 10 = u.length - colP u := by
    unfold Lib.lastIndexByte colP
    rw [hfz, hFV, backI_lib u u.length (Nat.le_refl _)]
    omega
  rw [e1] at hc
  rw [e2] at hl
  have HC := hid hc
  have HL := hid hl
  have g1 : 1 ≤ lineP u ∧ lineP u ≤ 1000001 := by
    have : u.count 10 ≤ u.length := List.count_le_length
    unfold lineP; omega
  have g2 : 1 ≤ colP u ∧ colP u ≤ 1000001 := by
    have hb : ∀ j, -1 ≤ backI u j ∧ backI u j < j := fun j => by
      induction j with
      | zero => simp [backI]
      | succ j ih => unfold backI; split <;> omega
    have := hb u.length
    unfold colP; omega
  obtain ⟨g11, g12⟩ := g1
  obtain ⟨g21, g22⟩ := g2
  generalize lineP u = LP at *
  generalize colP u = CP at *
  have hn0 : (0 : Int) ≤ min (k : Int) (l.length : Int) := by omega
  have hn1 : min (k : Int) (l.length : Int) ≤ (l.length : Int) := by omega
  generalize u.length = UL at *
  generalize l.length = N at *
  clear hu hFV hsv hc hl e1 e2
  go_enter Tryd.func13, Tryd.ntmps13
  go_wp2_with (first | (go_at_call 24; refine (HC.out _).mono ?_; rintro e w1 ⟨rfl, rfl⟩) | (go_at_call 25; refine (HL.out _).mono ?_; rintro e w2 ⟨rfl, rfl⟩) | still_step | (with_reducible first | refine wpStill_nil ?_ | refine Flow.Both.mk ?_ ?_ | exact True.intro) | (with_reducible refine Flow.same_mk rfl rfl rfl ?_; go_simp; done) | (with_reducible exact Flow.same_un rfl rfl rfl) | (refine Flow.region_still mixed ?hB ?_; (case hB => decide +kernel)))
  go_ret2
  exact ⟨by simp; omega, by (with_reducible repeat' (first | exact Fr.refl _ _ | apply Fr.alloc | apply Fr.drew | apply Fr.drewN | refine Fr.setCell ?_ ?_ _))⟩
end Go.Proofs.YtfiebpcambdbaaaDoor
