/-
  What lex.Words answers: a text's words, the end behind them; or an error, and where it is.
-/
import Derived.Test.YtfiebpcambdbaaaDoorLexN
set_option linter.unusedVariables false
set_option linter.unusedSimpArgs false
set_option maxHeartbeats 4000000
set_option maxRecDepth 8000
namespace Go.Proofs.YtfiebpcambdbaaaDoor
open Go.RowKit Go.Shelf Go.Proofs.YtfiebpcambdbaaaDoor.Lex
attribute [local irreducible] wpStill wpList Calls CallsIn

def wdC (x : Wd) : List Value := [.int .i64 x.kind, .string ⟨x.text.toArray⟩, .int .i64 x.n, .int .i64 x.at']
def wdsC (l : List Wd) : List Value := l.flatMap wdC
theorem wdsC_length (l : List Wd) : (wdsC l).length = l.length * 4 := by
  induction l with
  | nil => rfl
  | cons a l ih => unfold wdsC at ih ⊢; rw [List.flatMap_cons, List.length_append, ih, List.length_cons]; simp [wdC]; omega
theorem wdsC_app (a b : List Wd) : wdsC (a ++ b) = wdsC a ++ wdsC b := by simp [wdsC]
theorem wdsC_one (l : List Wd) : ∀ u ∈ wdsC l, u.oneCell' = true := by
  intro u hu
  obtain ⟨p, _, h⟩ := List.mem_flatMap.1 hu
  simp only [wdC, List.mem_cons, List.not_mem_nil, or_false] at h
  rcases h with rfl | rfl | rfl | rfl <;> rfl
theorem infoWD : (Tryd.prog.info? 37).map (fun i => (i.zero, i.size, i.bytes)) = some (some (.agg #[.int .i64 0, .string ⟨#[]⟩, .int .i64 0, .int .i64 0]), 4, 40) := by kernel_rfl

theorem next_err {r : B} {x : Int} (h : nextB r = .error x) : x = 10 ∨ x = 2 := by
  unfold nextB at h
  split at h
  · split at h
    · cases h; exact .inl rfl
    · cases h
  · split at h
    · split at h
      · cases h
      · cases h; exact .inl rfl
    · split at h
      · cases h; exact .inr rfl
      · cases h
/-- Words, or an error, as Words hands them back. -/
def WordsTo (E : TypeId) (w : World) (r : Except (Int × Int) (List Wd)) (e : Ending) (w' : World) : Prop :=
  match r with
  | .error (x, a) => e = .returned (.tuple #[.slice none 0 0, .int .i64 x, .int .i64 a]) ∧ Fr (fun _ => False) w w'
  | .ok l => ∃ ao cap, e = .returned (.tuple #[.slice ao l.length cap, .int .i64 0, .int .i64 0]) ∧ OwnAt w' E 4 (fun z => w.heap.size ≤ z) ao l.length cap (wdsC l) ∧ Fr (fun _ => False) w w'
def preL (L : List Wd) : Except (Int × Int) (List Wd) → Except (Int × Int) (List Wd)
  | .error e => .error e
  | .ok l => .ok (L ++ l)
theorem preL_cons (L : List Wd) (x : Wd) (y : Except (Int × Int) (List Wd)) : preL L (consW x y) = preL (L ++ [x]) y := by
  cases y <;> simp [preL, consW]
def LexRel (E : TypeId) (s : B) (w : World) (v5 v6 : Value) (wr : World) : Prop :=
  ∃ (L : List Wd) (ao : Option Addr) (cap : Nat) (r : B), v5 = .slice ao L.length cap ∧ v6 = .string ⟨r.toArray⟩ ∧ skipB r = r ∧ OwnAt wr E 4 (fun z => w.heap.size ≤ z) ao L.length cap (wdsC L) ∧
    wordsR s.length (skipB s) = preL L (wordsR s.length r) ∧ L.length + r.length ≤ s.length ∧ Fr (fun _ => False) w wr

theorem words_is (s : B) (w : World) (hs : s.length ≤ 1000000) (ht : Tabs w) :
    Calls Tryd.prog 9 #[.string ⟨s.toArray⟩] w fun e w' => WordsTo 37 w (wordsB s) e w' := by
  obtain ⟨i0, hi0, hz0, hz1, hz2⟩ := info_parts infoWD
  have HT := hid ht
  have HSK := hid (fun w => skip_is s w hs)
  obtain ⟨sv, hsv⟩ : ∃ sv : ByteArray, sv = ⟨s.toArray⟩ := ⟨_, rfl⟩
  rw [← hsv] at HSK ⊢
  have hsz : sv.size = s.length := by rw [hsv]; exact mk_size s
  obtain ⟨T, hT⟩ : ∃ T, T = s.length := ⟨_, rfl⟩
  have HSZ := hid (show sv.size = T by rw [hsz, hT])
  have HTT := hid hT
  by_cases hbig : 16384 < s.length
  · have e : wordsB s = .error (2, 0) := by unfold wordsB; rw [if_pos hbig]
    rw [e]
    have hb2 : (16384 : Int) < sv.size := by omega
    clear ht hs hsv hsz hbig e hT
    go_enter Tryd.func9, Tryd.ntmps9
    go_wp2_with (first | still_step | (with_reducible first | refine wpStill_nil ?_ | refine Flow.Both.mk ?_ ?_ | exact True.intro) | (with_reducible refine Flow.same_mk rfl rfl rfl ?_; go_simp; done) | (with_reducible exact Flow.same_un rfl rfl rfl) | (refine Flow.region_still mixed ?hB ?_; (case hB => decide +kernel)))
    go_ret3
    exact ⟨rfl, Fr.refl _ _⟩
  · have e : wordsB s = wordsR T (skipB s) := by unfold wordsB; rw [if_neg hbig, hT]
    rw [e]
    have HG := hid e
    have hb2 : (T : Int) ≤ 16384 := by omega
    have HL := hid (show T ≤ 16384 by omega)
    have hsk0 := skipB_le s
    have HL0 := hid (show (skipB s).length ≤ T by omega)
    clear ht hs hsv hsz hbig e hT hsk0
    have hsz := HSZ.out
    go_enter Tryd.func9, Tryd.ntmps9
    go_wp2_with (first | (go_at_call 18; refine (HSK.out _).mono ?_; rintro e w0 ⟨rfl, hf⟩; have HF0 := hid hf; clear hf) | still_step | (with_reducible first | refine wpStill_nil ?_ | refine Flow.Both.mk ?_ ?_ | exact True.intro) | (with_reducible refine Flow.same_mk rfl rfl rfl ?_; go_simp; done) | (with_reducible exact Flow.same_un rfl rfl rfl) | (refine Flow.region_still mixed ?hB ?_; (case hB => decide +kernel)))
    go_loopw [5, 6] (fun v5 v6 wr => LexRel 37 s w v5 v6 wr) (fun _ v6 _ => strLen v6)
    case atStart => exact ⟨[], none, 0, skipB s, rfl, rfl, skipB_skip s, OwnAt.nil _ _ _ _ _, by cases wordsR (↑s.length) (skipB s) <;> rfl, by have := HL0.out; have := HTT.out; simp; omega, HF0.out⟩
    case round =>
      obtain ⟨L, ao, cap, r, rfl, rfl, hskr, ho, hw, hll, hf⟩ := hrel
      rw [← HTT.out] at hw hll
      have HW := hid hw
      have HSR := hid hskr
      have HF := hid hf
      have HLL := hid hll
      have HO := hid (ho.mono (R2 := fun z => w.heap.size ≤ z ∧ z < wr.heap.size) (fun z hz h => ⟨h, hz⟩))
      have s0 := hf.size
      have hT16 := HL.out
      obtain ⟨N, hN⟩ : ∃ N, N = L.length := ⟨_, rfl⟩
      rw [← hN] at HO hll ⊢
      have HN := hid hN
      clear hw hskr hf ho hN
      by_cases hr : r = []
      · subst hr
        have hwl : wordsR T (skipB s) = .ok (L ++ [⟨3, [], 0, T⟩]) := by rw [HW.out, wordsR_nil]; rfl
        have HWL := hid hwl
        clear hwl
        go_wp2_with (first | (at_builtin; refine wpList_append_Own _ rfl (.tmp 44) (.tmp 48) 23 rfl 37 i0 (.agg #[.int .i64 0, .string ⟨#[]⟩, .int .i64 0, .int .i64 0]) 4 40 Tryd.underlying23 hi0 hz0 hz1 hz2 rfl (by decide) (fun z => w.heap.size ≤ z ∧ z < wr.heap.size) (fun _ => True) ao N cap (wdsC L) rfl ?own (some ⟨wr.heap.size, 0, none⟩) 1 1 (wdC ⟨3, [], 0, T⟩) rfl ?vw ?one ?b1 ?b2 ?grow) | still_step | (with_reducible first | refine wpStill_nil ?_ | refine Flow.Both.mk ?_ ?_ | exact True.intro) | (with_reducible refine Flow.same_mk rfl rfl rfl ?_; go_simp; done) | (with_reducible exact Flow.same_un rfl rfl rfl) | (refine Flow.region_still mixed ?hB ?_; (case hB => decide +kernel)))
        case own => exact HO.out.fr (S := fun _ => False) (by (with_reducible repeat' (first | exact Fr.refl _ _ | apply Fr.alloc | apply Fr.drew | apply Fr.drewN | refine Fr.setCell ?_ ?_ _))) (fun _ _ h => h)
        case vw =>
          have key : ∀ W : World, Blk W wr.heap.size #[.int .i64 3, .string ⟨#[]⟩, .int .i64 0, .int .i64 (T : Int)] 37 → Vw W 4 (fun _ => True) (some ⟨wr.heap.size, 0, none⟩) 1 (wdC ⟨3, [], 0, T⟩) := fun W hb => Vw.of_blk (sz := 4) (n := 1) (R := fun _ => True) hb trivial rfl
          exact key _ (by (repeat (with_reducible apply Blk.drew)); exact Blk.new _ _ _)
        case one => exact wdsC_one [_]
        case b1 => unfold maxLen; omega
        case b2 => omega
        case grow =>
          intro ao5 cap5 w5 ho5 hf5
          have HO5 := hid (ho5.mono (R2 := fun z => w.heap.size ≤ z) (fun z _ h => by
            rcases h with h | h
            · exact h.1
            · (try simp at h); omega))
          have HF5 := hid ((HF.out.trans (show Fr (fun _ => False) wr _ by (with_reducible repeat' (first | exact Fr.refl _ _ | apply Fr.alloc | apply Fr.drew | apply Fr.drewN | refine Fr.setCell ?_ ?_ _))) (fun _ _ h => h)).trans hf5 (fun z hz h => by have h' := h.1; omega))
          clear ho5 hf5
          go_wp2_with (first | still_step | (with_reducible first | refine wpStill_nil ?_ | refine Flow.Both.mk ?_ ?_ | exact True.intro) | (with_reducible refine Flow.same_mk rfl rfl rfl ?_; go_simp; done) | (with_reducible exact Flow.same_un rfl rfl rfl) | (refine Flow.region_still mixed ?hB ?_; (case hB => decide +kernel)))
          go_ret3
          rw [HWL.out]
          refine ⟨ao5, cap5, by rw [List.length_append, ← HN.out]; rfl, ?_, HF5.out⟩
          rw [List.length_append, ← HN.out, wdsC_app]
          exact HO5.out
      · obtain ⟨rv, hrv⟩ : ∃ rv : ByteArray, rv = ⟨r.toArray⟩ := ⟨_, rfl⟩
        rw [← hrv]
        have HRV := hid hrv
        have hrz : rv.size = r.length := by rw [hrv]; exact mk_size r
        have hne : rv.toList.isEmpty = false := by
          rw [Lib.toList_data, hrv]
          cases r with
          | nil => exact absurd rfl hr
          | cons => rfl
        have hnx := fun w ht => next_is r w (by omega) ht
        rw [← hrv] at hnx
        have HRZ := hid hrz
        have hrl : (rv.size : Int) ≤ T := by omega
        have hpos : (T : Int) - rv.size = (T : Int) - r.length := by rw [hrz]
        obtain ⟨P0, hP0⟩ : ∃ P0 : Int, P0 = (T : Int) - r.length := ⟨_, rfl⟩
        rw [← hP0] at hpos
        have HP0 := hid hP0
        cases hx : nextB r with
        | error x =>
          have HNX := hid hnx
          rw [hx] at HNX
          unfold nextV at HNX
          have hwe := wordsR_err (T := T) hr hx
          rw [← hP0] at hwe
          have HWL := hid (show wordsR T (skipB s) = .error (x, P0) by rw [HW.out, hwe]; rfl)
          have hx0 : (x != 0) = true := by rcases next_err hx with rfl | rfl <;> rfl
          clear hwe hx hnx hrz hrv hr hP0
          go_wp2_with (first | (go_at_call 19; refine (HNX.out _ (HT.out.fr (by first | exact HF.out | (repeat (first | exact HF.out | with_reducible apply Fr.drew))))).mono ?_; rintro e w1 ⟨rfl, hf⟩; have HF1 := hid (HF.out.trans hf (fun _ _ h => h)); have HO1 := hid (HO.out.fr hf (fun _ _ h => h)); have s1 := hf.size; clear hf) | ((with_reducible apply wpList_allocA (ty := 37) (dst := some 8) #[.int .i64 0, .string ⟨#[]⟩, .int .i64 0, .int .i64 0]); (case zai => exact zWD); (case zac => rfl); intro w2 hb hf hs; have HB2 := hid hb; have HF2 := hid (HF1.out.trans hf (fun _ _ h => h)); have HO2 := hid (HO1.out.fr hf (fun _ _ h => h)); clear hb hf hs) | ((with_reducible apply wpList_storeA (b := w1.heap.size) (C := #[.int .i64 0, .string ⟨#[]⟩, .int .i64 0, .int .i64 0]) (cells := #[.int .i64 0, .string ⟨#[]⟩, .int .i64 0, .int .i64 0]) (T := 37)); (case zsx => rfl); (case zsy => rfl); (case zsn => rfl); (case zsi => exact szWD); (case zs1 => rfl); (case zsb => exact HB2.out); intro w3 hb hf hs; have HB3 := hid hb; have HF3 := hid (HF2.out.trans hf (fun z hz e => by have : z = w1.heap.size := e; omega)); have HO3 := hid (HO2.out.fr hf (fun z hz e => by have h1 : z = w1.heap.size := e; have h2 := hz.2; omega)); clear hb hf hs) | still_step | (with_reducible first | refine wpStill_nil ?_ | refine Flow.Both.mk ?_ ?_ | exact True.intro) | (with_reducible refine Flow.same_mk rfl rfl rfl ?_; go_simp; done) | (with_reducible exact Flow.same_un rfl rfl rfl) | (refine Flow.region_still mixed ?hB ?_; (case hB => decide +kernel)))
          go_ret3
          rw [HWL.out]
          exact ⟨rfl, HF3.out⟩
        | ok x =>
          obtain ⟨k, t, n⟩ := x
          have HNX := hid hnx
          rw [hx] at HNX
          unfold nextV at HNX
          dsimp only at HNX
          have hwo := wordsR_ok (T := T) hr hx
          rw [← hP0] at hwo
          have hnb := nextB_ok hx
          have htl := hnb.2.1.length_le
          have htp : 0 < t.length := List.length_pos_iff.2 hnb.1
          have HSK2 := hid (fun w => skip_is (r.drop t.length) w (by rw [List.length_drop]; omega))
          have hdr : rv.extract t.length rv.size = ⟨(r.drop t.length).toArray⟩ := by rw [hrv]; exact mk_drop r t.length htl
          have HDR := hid hdr
          have hlt := drop_lt hr hx
          obtain ⟨X, hX⟩ : ∃ X : ByteArray, X = ⟨t.toArray⟩ := ⟨_, rfl⟩
          rw [← hX] at HNX
          have HX := hid hX
          have hXs : X.size = t.length := by rw [hX]; exact mk_size t
          obtain ⟨RV1, hRV1⟩ : ∃ RV1 : ByteArray, RV1 = ⟨(r.drop t.length).toArray⟩ := ⟨_, rfl⟩
          rw [← hRV1] at hdr HSK2
          obtain ⟨TL, hTL⟩ : ∃ x, x = t.length := ⟨_, rfl⟩
          have hdr2 : rv.extract TL rv.size = RV1 := by rw [hTL]; exact hdr
          rw [← hTL] at hXs
          have htl2 : (TL : Int) ≤ rv.size := by omega
          have HN2 := hid (show N + 1 + (skipB (r.drop t.length)).length ≤ T by omega)
          have HLT := hid (show (skipB (r.drop t.length)).length < r.length from hlt)
          have hskk := skipB_skip (r.drop t.length)
          rw [hwo, preL_cons] at HW
          generalize skipB (r.drop t.length) = r2 at *
          have HWO := hid HW.out
          have HSK3 := hid hskk
          clear hwo hnb htl htp hlt hTL hx hnx hrv hr hP0 hX hskk hRV1 HW hrz hdr HDR
          go_wp2_with (first | (go_at_call 19; refine (HNX.out _ (HT.out.fr (by first | exact HF.out | (repeat (first | exact HF.out | with_reducible apply Fr.drew))))).mono ?_; rintro e w1 ⟨rfl, hf⟩; have HF1 := hid (HF.out.trans hf (fun _ _ h => h)); have HO1 := hid (HO.out.fr hf (fun _ _ h => h)); have s1 := hf.size; clear hf) | ((with_reducible apply wpList_allocA (ty := 37) (dst := some 8) #[.int .i64 0, .string ⟨#[]⟩, .int .i64 0, .int .i64 0]); (case zai => exact zWD); (case zac => rfl); intro w2 hb hf hs; have HB2 := hid hb; have HF2 := hid (HF1.out.trans hf (fun _ _ h => h)); have HO2 := hid (HO1.out.fr hf (fun _ _ h => h)); clear hb hf hs) | ((with_reducible apply wpList_storeA (b := w1.heap.size) (C := #[.int .i64 0, .string ⟨#[]⟩, .int .i64 0, .int .i64 0]) (cells := #[.int .i64 k, .string X, .int .i64 n, .int .i64 0]) (T := 37)); (case zsx => rfl); (case zsy => rfl); (case zsn => rfl); (case zsi => exact szWD); (case zs1 => rfl); (case zsb => exact HB2.out); intro w3 hb hf hs; have HB3 := hid hb; have HF3 := hid (HF2.out.trans hf (fun z hz e => by have : z = w1.heap.size := e; omega)); have HO3 := hid (HO2.out.fr hf (fun z hz e => by have h1 : z = w1.heap.size := e; have h2 := hz.2; omega)); clear hb hf hs) | ((with_reducible apply wpList_setA (b := w1.heap.size) (o := 3) (C := #[.int .i64 k, .string X, .int .i64 n, .int .i64 0]) (v := .int .i64 P0) (T := 37)); (case zcx => rfl); (case zcy => rfl); (case zcv => rfl); (case zc1 => rfl); (case zcn => simp); (case zci => exact szTI); (case zcb => exact HB3.out); intro w4 hb hf hs; have HB4 := hid (show Blk w4 w1.heap.size #[.int .i64 k, .string X, .int .i64 n, .int .i64 P0] 37 from hb); have HF4 := hid (HF3.out.trans hf (fun z hz e => by have : z = w1.heap.size := e; omega)); have HO4 := hid (HO3.out.fr hf (fun z hz e => by have h1 : z = w1.heap.size := e; have h2 := hz.2; omega)); have s4 := HB4.out.lt; clear hb hf hs) | ((with_reducible apply wpList_loadA (b := w1.heap.size) (C := #[.int .i64 k, .string X, .int .i64 n, .int .i64 P0]) (T := 37)); (case zlx => rfl); (case zlu => exact unWD.choose_spec.1); (case zld => exact unWD.choose_spec.2); (case zli => exact szWD); (case zlb => exact HB4.out)) | (at_builtin; refine wpList_append_Own _ rfl (.tmp 35) (.tmp 37) 23 rfl 37 i0 (.agg #[.int .i64 0, .string ⟨#[]⟩, .int .i64 0, .int .i64 0]) 4 40 Tryd.underlying23 hi0 hz0 hz1 hz2 rfl (by decide) (fun z => w.heap.size ≤ z ∧ z < wr.heap.size) (fun _ => True) ao N cap (wdsC L) rfl ?own (some ⟨w4.heap.size, 0, none⟩) 1 1 (wdC ⟨k, t, n, P0⟩) rfl ?vw ?one ?b1 ?b2 ?grow) | still_step | (with_reducible first | refine wpStill_nil ?_ | refine Flow.Both.mk ?_ ?_ | exact True.intro) | (with_reducible refine Flow.same_mk rfl rfl rfl ?_; go_simp; done) | (with_reducible exact Flow.same_un rfl rfl rfl) | (refine Flow.region_still mixed ?hB ?_; (case hB => decide +kernel)))
          case own => exact HO4.out.fr (S := fun _ => False) (by (with_reducible repeat' (first | exact Fr.refl _ _ | apply Fr.alloc | apply Fr.drew | apply Fr.drewN | refine Fr.setCell ?_ ?_ _))) (fun _ _ h => h)
          case vw =>
            have key : ∀ W : World, Blk W w4.heap.size #[.int .i64 k, .string X, .int .i64 n, .int .i64 P0] 37 → Vw W 4 (fun _ => True) (some ⟨w4.heap.size, 0, none⟩) 1 (wdC ⟨k, t, n, P0⟩) := fun W hb => by
              have h := Vw.of_blk (sz := 4) (n := 1) (R := fun _ => True) hb trivial rfl
              rw [HX.out] at h
              exact h
            exact key _ (by (repeat (with_reducible apply Blk.drew)); exact Blk.new _ _ _)
          case one => exact wdsC_one [_]
          case b1 => unfold maxLen; omega
          case b2 => omega
          case grow =>
            intro ao5 cap5 w5 ho5 hf5
            have HO5 := hid (ho5.mono (R2 := fun z => w.heap.size ≤ z) (fun z _ h => by
              rcases h with h | h
              · exact h.1
              · (try simp at h); omega))
            have hf45 : Fr (fun z => w.heap.size ≤ z ∧ z < wr.heap.size) w4 w5 := (show Fr (fun z => w.heap.size ≤ z ∧ z < wr.heap.size) w4 _ by (with_reducible repeat' (first | exact Fr.refl _ _ | apply Fr.alloc | apply Fr.drew | apply Fr.drewN | refine Fr.setCell ?_ ?_ _))).trans hf5 (fun z hz h => h)
            have HF5 := hid (HF4.out.trans hf45 (fun z hz h => by have h' := h.1; omega))
            have hb5 := HB4.out.fr hf45 (fun h => by have h1 := h.2; omega)
            have c1 := hb5.cell 1
            have l1 := hb5.lt
            clear ho5 hf5 hf45 hb5
            go_wp2_with (first | (go_at_call 18; refine (HSK2.out _).mono ?_; rintro e w6 ⟨rfl, hf⟩; have HF6 := hid (HF5.out.trans hf (fun _ _ h => h)); have HO6 := hid (HO5.out.fr hf (fun _ _ h => h)); clear hf) | still_step | (with_reducible first | refine wpStill_nil ?_ | refine Flow.Both.mk ?_ ?_ | exact True.intro) | (with_reducible refine Flow.same_mk rfl rfl rfl ?_; go_simp; done) | (with_reducible exact Flow.same_un rfl rfl rfl) | (refine Flow.region_still mixed ?hB ?_; (case hB => decide +kernel)))
            go_roundw
            case rel =>
              refine ⟨L ++ [⟨k, t, n, P0⟩], ao5, cap5, r2, by rw [List.length_append, ← HN.out]; rfl, rfl, HSK3.out, ?_, ?_, ?_, HF6.out⟩
              · rw [List.length_append, ← HN.out, wdsC_app]; exact HO6.out
              · rw [← HTT.out]; exact HWO.out
              · have h1 := HN2.out; have h2 := HN.out; have h3 := HTT.out; simp; omega
            case measure =>
              have h1 := HLT.out
              have h2 := HRZ.out
              simp only [strLen, mk_size]
              omega
end Go.Proofs.YtfiebpcambdbaaaDoor
