/-
  What Onto of package buffer does: memory behind all stores that wait, in new memory.
-/
import Derived.Test.YtkpbojddahddnaaBuf2
namespace Go.Proofs.Ytkpbojddahddnaa
open Go.RowKit
attribute [local irreducible] wpStill wpList Calls CallsIn

theorem infoI64 : (Try.prog.info? 2).map (fun i => (i.zero, i.size, i.bytes)) = some (some (.int .i64 0), 1, 8) := by kernel_rfl
set_option maxHeartbeats 400000 in
/-- slices.Clone: a row of its own; nil of nil. -/
theorem clone_int (R : Nat → Prop) (ao : Option Addr) (n cap : Nat) (cs : List Value) (w : World) (hv : Vw w 1 R ao n cs) (hnil : ao = none → n = 0) (h1 : ∀ u ∈ cs, u.oneCell' = true) (hb : n * 8 ≤ 140737488355328) :
    Calls Try.prog 20 #[.slice ao n cap] w fun e w' => ∃ ao' cap', e = .returned (.slice ao' n cap') ∧ OwnAt w' 2 1 (fun k => w.heap.size ≤ k) ao' n cap' cs ∧ Fr (fun _ => False) w w' ∧ (ao = none → ao' = none) := by
  obtain ⟨i0, hi, hz0, hz1, hz2⟩ := info_parts infoI64
  have hen := fun (w : World) (a : Option Addr) (n c n' c' : Nat) => Lib.run_eql_slice_nil (P := Try.prog) w 23 2 a n c n' c' Try.underlying23
  cases ao with
  | none =>
    have hn := hnil rfl
    subst hn
    obtain rfl : cs = [] := List.eq_nil_of_length_eq_zero (by simpa using hv.1)
    go_enter Try.func20, Try.ntmps20
    go_wp2
    go_ret
    exact ⟨none, 0, rfl, OwnAt.nil _ _ _ _ _, Fr.refl _ _, by simp⟩
  | some ad =>
    have HV := hid hv
    have H1 := hid h1
    have HB := hid hb
    clear hv h1 hb hnil
    go_enter Try.func20, Try.ntmps20
    go_wp2_with (at_builtin; refine wpList_append_Own _ rfl (.tmp 5) (.tmp 6) 23 rfl 2 i0 (.int .i64 0) 1 8 Try.underlying23 hi hz0 hz1 hz2 rfl (by decide) (fun k => w.heap.size ≤ k) R (some ⟨w.heap.size, 0, none⟩) 0 0 [] rfl (OwnAt.nil _ _ _ _ _) (some ad) n cap cs rfl (HV.out.fr (S := fun _ => False) (by (repeat' (first | with_reducible exact Fr.refl _ _ | with_reducible apply Fr.alloc | with_reducible apply Fr.drew | with_reducible apply Fr.drewN | (with_reducible refine Fr.setCell ?_ ?_ _)))) (fun _ _ h => h)) H1.out ?b1 ?b2 ?grow)
    case b1 => unfold maxLen; have := HB.out; omega
    case b2 => have := HB.out; omega
    case grow =>
      intro ao' cap' w1 ho1 hf1
      have HO1 := hid ho1
      have HF1 := hid hf1
      clear ho1 hf1
      go_wp2
      go_ret
      refine ⟨ao', cap', rfl, HO1.out.mono (fun k _ h => ?_), ?_, by simp⟩
      · first | omega | (simp at h; omega)
      · have h0 : Fr (fun _ => False) w (w.alloc (.cells #[] 2)) := by (repeat' (first | with_reducible exact Fr.refl _ _ | with_reducible apply Fr.alloc | with_reducible apply Fr.drew | with_reducible apply Fr.drewN | (with_reducible refine Fr.setCell ?_ ?_ _)))
        exact h0.trans HF1.out (fun k hk h => by omega)


/-- Memory with a word that has something; others are nothing. -/
def putL (mem : List Int) (e : Int × Int) : List Int := if 0 ≤ e.1 ∧ e.1 < mem.length then mem.set e.1.toNat e.2 else mem
def ontoL (mem : List Int) (l : List (Int × Int)) : List Int := l.foldl putL mem
theorem putL_length (mem : List Int) (e : Int × Int) : (putL mem e).length = mem.length := by unfold putL; split <;> simp
theorem ontoL_length (l : List (Int × Int)) : ∀ mem : List Int, (ontoL mem l).length = mem.length := by
  induction l with
  | nil => intro mem; rfl
  | cons e l ih => intro mem; exact (ih _).trans (putL_length _ _)
theorem ontoL_snoc (mem : List Int) (l : List (Int × Int)) (e : Int × Int) : ontoL mem (l ++ [e]) = putL (ontoL mem l) e := by simp [ontoL]
theorem ent_get (l : List (Int × Int)) : ∀ (k : Nat) (h : k < l.length), (ent l)[k * 2]? = some (.int .i64 l[k].1) ∧ (ent l)[k * 2 + 1]? = some (.int .i64 l[k].2) := by
  induction l with
  | nil => intro k h; simp at h
  | cons e l ih =>
    intro k h
    cases k with
    | zero => simp [ent]
    | succ k =>
      have := ih k (by simpa using h)
      rw [Nat.add_mul]
      simpa [ent] using this

set_option maxHeartbeats 800000 in
theorem onto_yes (b : Nat) (R Rm : Nat → Prop) (room : Nat) (l : List (Int × Int)) (am : Option Addr) (cm : Nat) (mem : List Int) (w : World) (hb : BufRep w b R room l) (hm : Vw w 1 Rm am mem.length (ints mem)) (hnil : am = none → mem.length = 0) (hlen : mem.length * 8 ≤ 140737488355328) :
    Calls Try.prog 14 #[.pointer (some ⟨b, 0, none⟩), .slice am mem.length cm] w fun e w' => ∃ ao' cap', e = .returned (.slice ao' mem.length cap') ∧ OwnAt w' 2 1 (fun k => w.heap.size ≤ k) ao' mem.length cap' (ints (ontoL mem l)) ∧ Fr (fun _ => False) w w' := by
  have HB := hid hb
  have HM := hid hm
  have HN := hid hnil
  have HL := hid hlen
  clear hb hm hnil hlen
  go_enter Try.func14, Try.ntmps14
  go_wp2_with (first | (go_at_call 20; refine (clone_int Rm am mem.length cm (ints mem) _ HM.out HN.out (ints_one _) HL.out).mono ?_; rintro e w1 ⟨ao', cap', rfl, ho1, hf1, _⟩; have HO1 := hid ho1; have HF1 := hid hf1; clear ho1 hf1) | (go_at_call 19; refine (all_yes b R room l _ (HB.out.fr HF1.out (fun h => h) (fun _ _ h => h))).mono ?_; rintro e w2 ⟨ab, cb, rfl, ho2, hf2⟩; have HO2 := hid ho2; have HF2 := hid hf2; clear ho2 hf2) | still_step | (with_reducible refine wpStill_nil ?_) | (with_reducible refine Flow.Both.mk ?_ ?_) | (with_reducible exact True.intro) | (with_reducible refine Flow.same_mk rfl rfl rfl ?_; go_simp; done) | (refine Flow.region_still mixed ?hB ?_; (case hB => decide +kernel)))
  have HO1' := HO1.out.mono (R2 := fun k => w.heap.size ≤ k ∧ k < w1.heap.size) (fun k h1 h2 => ⟨h2, h1⟩)
  have HOs := hid (HO1'.fr HF2.out (fun _ _ h => h))
  have hl2 := HB.out.2.2.1
  have hl3 := HB.out.2.1
  clear HO1'
  go_loopw [13] (fun i wr => ∃ k : Nat, k ≤ l.length ∧ i = .int .i64 k ∧ OwnAt wr 2 1 (fun k => w.heap.size ≤ k ∧ k < w1.heap.size) ao' mem.length cap' (ints (ontoL mem (l.take k))) ∧ Fr (fun k => w.heap.size ≤ k ∧ k < w1.heap.size) w2 wr) (fun i _ => l.length - (intOf i).toNat)
  case atStart => exact ⟨0, Nat.zero_le _, rfl, HOs.out, Fr.refl _ _⟩
  case round =>
    obtain ⟨k, hk, rfl, ho, hf⟩ := hrel
    have HO := hid ho
    have HF := hid hf
    clear ho hf
    by_cases hlt : k < l.length
    · have hne : ent l ≠ [] := fun h => by rw [ent_nil_of] at h; subst h; simp at hlt
      have hv := (HO2.out.fr HF.out (fun k h1 h2 => by omega)).vw
      obtain ⟨r2, off2, rfl, hr2, hc2⟩ := hv.cell hne
      have c0 := hc2 (k * 2) _ (ent_get l k hlt).1
      have c1 := hc2 (k * 2 + 1) _ (ent_get l k hlt).2
      have c1' : wr.cell? ⟨r2, off2 + k * 2 + 1, none⟩ = some (.int .i64 l[k].2) := c1
      have hr2l := World.block_lt_of_cell? _ _ c0
      dsimp only at hr2l
      have hs : ontoL mem (l.take (k + 1)) = putL (ontoL mem (l.take k)) l[k] := by rw [List.take_succ_eq_append_getElem hlt, ontoL_snoc]
      have HS := hid hs
      clear hv hc2 c1 hs hne
      generalize hx : l[k].1 = x at *
      generalize hy : l[k].2 = y at *
      have HX := hid hx
      have HY := hid hy
      clear hx hy
      by_cases h1 : 0 ≤ x
      · by_cases h2 : x < (mem.length : Int)
        · obtain ⟨r1, off1, rfl, hr1, hfz, ⟨u, hu⟩, hown, hfr⟩ := HO.out.set1 (i := x.toNat) (by omega) (.int .i64 y)
          have hr1l := World.block_lt_of_cell? _ _ hu
          dsimp only at hr1l
          have HOW := hid hown
          have HFW := hid hfr
          clear hown hfr
          go_wp2_with (first | still_step | (with_reducible refine wpStill_nil ?_) | (with_reducible refine Flow.Both.mk ?_ ?_) | (with_reducible exact True.intro) | (with_reducible refine Flow.same_mk rfl rfl rfl ?_; go_simp; done) | (refine Flow.region_still mixed ?hB ?_; (case hB => decide +kernel)))
          go_roundw
          case rel =>
            refine ⟨k + 1, by omega, by go_num, ?_, ?_⟩
            · rw [HS.out, show (l[k] : Int × Int) = (x, y) from Prod.ext HX.out HY.out, putL, if_pos ⟨h1, by rw [ontoL_length]; exact h2⟩, ← ints_set]
              exact HOW.out.fr (S := fun _ => False) (by (repeat' (first | with_reducible exact Fr.refl _ _ | with_reducible apply Fr.alloc | with_reducible apply Fr.drew | with_reducible apply Fr.drewN | (with_reducible refine Fr.setCell ?_ ?_ _)))) (fun _ _ h => h)
            · exact (HF.out.trans HFW.out (fun k _ e => by subst e; exact hr1)).alloc _
          case measure => simp [intOf]; omega
        · go_wp2_with (first | still_step | (with_reducible refine wpStill_nil ?_) | (with_reducible refine Flow.Both.mk ?_ ?_) | (with_reducible exact True.intro) | (with_reducible refine Flow.same_mk rfl rfl rfl ?_; go_simp; done) | (refine Flow.region_still mixed ?hB ?_; (case hB => decide +kernel)))
          go_roundw
          case rel =>
            refine ⟨k + 1, by omega, by go_num, ?_, ?_⟩
            · rw [HS.out, show (l[k] : Int × Int) = (x, y) from Prod.ext HX.out HY.out, putL, if_neg (by rw [ontoL_length]; omega)]
              exact HO.out.fr (S := fun _ => False) (by (repeat' (first | with_reducible exact Fr.refl _ _ | with_reducible apply Fr.alloc | with_reducible apply Fr.drew | with_reducible apply Fr.drewN | (with_reducible refine Fr.setCell ?_ ?_ _)))) (fun _ _ h => h)
            · exact HF.out.alloc _
          case measure => simp [intOf]; omega
      · have h1' : decide (0 ≤ x) = false := by simp; omega
        go_wp2_with (first | still_step | (with_reducible refine wpStill_nil ?_) | (with_reducible refine Flow.Both.mk ?_ ?_) | (with_reducible exact True.intro) | (with_reducible refine Flow.same_mk rfl rfl rfl ?_; go_simp; done) | (refine Flow.region_still mixed ?hB ?_; (case hB => decide +kernel)))
        go_roundw
        case rel =>
          refine ⟨k + 1, by omega, by go_num, ?_, ?_⟩
          · rw [HS.out, show (l[k] : Int × Int) = (x, y) from Prod.ext HX.out HY.out, putL, if_neg (by omega)]
            exact HO.out.fr (S := fun _ => False) (by (repeat' (first | with_reducible exact Fr.refl _ _ | with_reducible apply Fr.alloc | with_reducible apply Fr.drew | with_reducible apply Fr.drewN | (with_reducible refine Fr.setCell ?_ ?_ _)))) (fun _ _ h => h)
          · exact HF.out.alloc _
        case measure => simp [intOf]; omega
    · obtain rfl : k = l.length := by omega
      go_wp2_with (first | still_step | (with_reducible refine wpStill_nil ?_) | (with_reducible refine Flow.Both.mk ?_ ?_) | (with_reducible exact True.intro) | (with_reducible refine Flow.same_mk rfl rfl rfl ?_; go_simp; done) | (refine Flow.region_still mixed ?hB ?_; (case hB => decide +kernel)))
      go_ret
      have h := HO.out
      rw [List.take_length] at h
      refine ⟨_, _, rfl, h.mono (fun k _ h => h.1), ?_⟩
      have h1 := (HF1.out.trans HF2.out (fun _ _ h => h)).trans HF.out (S2 := fun k => w.heap.size ≤ k ∧ k < w1.heap.size)
      exact h1 (fun k hk h => by omega)
set_option maxHeartbeats 800000 in
theorem onto_nil (Rm : Nat → Prop) (am : Option Addr) (cm : Nat) (mem : List Int) (w : World) (hm : Vw w 1 Rm am mem.length (ints mem)) (hnil : am = none → mem.length = 0) (hlen : mem.length * 8 ≤ 140737488355328) :
    Calls Try.prog 14 #[.pointer none, .slice am mem.length cm] w fun e w' => ∃ ao' cap', e = .returned (.slice ao' mem.length cap') ∧ OwnAt w' 2 1 (fun k => w.heap.size ≤ k) ao' mem.length cap' (ints mem) ∧ Fr (fun _ => False) w w' := by
  have HM := hid hm
  have HN := hid hnil
  have HL := hid hlen
  clear hm hnil hlen
  go_enter Try.func14, Try.ntmps14
  go_wp2_with (first | (go_at_call 20; refine (clone_int Rm am mem.length cm (ints mem) _ HM.out HN.out (ints_one _) HL.out).mono ?_; rintro e w1 ⟨ao', cap', rfl, ho1, hf1, _⟩; have HO1 := hid ho1; have HF1 := hid hf1; clear ho1 hf1) | (go_at_call 19; refine (all_nil _).mono ?_; rintro e w' ⟨rfl, rfl⟩) | still_step | (with_reducible refine wpStill_nil ?_) | (with_reducible refine Flow.Both.mk ?_ ?_) | (with_reducible exact True.intro) | (with_reducible refine Flow.same_mk rfl rfl rfl ?_; go_simp; done) | (refine Flow.region_still mixed ?hB ?_; (case hB => decide +kernel)))
  go_loopw [13] (fun i wr => i = .int .i64 0 ∧ wr = w1) (fun i _ => 0)
  case atStart => exact ⟨rfl, rfl⟩
  case round =>
    obtain ⟨rfl, rfl⟩ := hrel
    go_wp2_with (first | still_step | (with_reducible refine wpStill_nil ?_) | (with_reducible refine Flow.Both.mk ?_ ?_) | (with_reducible exact True.intro) | (with_reducible refine Flow.same_mk rfl rfl rfl ?_; go_simp; done) | (refine Flow.region_still mixed ?hB ?_; (case hB => decide +kernel)))
    go_ret
    exact ⟨_, _, rfl, HO1.out, HF1.out⟩

end Go.Proofs.Ytkpbojddahddnaa
