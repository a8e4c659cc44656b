/-
  Memory of package seq, and what the laws ask of it: numbers, small; slices.Clone.
-/
import Derived.Test.YtokmdjpaegaojaaSeq6
namespace Go.Proofs.Ytokmdjpaegaojaa
open Go.RowKit
attribute [local irreducible] wpStill wpList Calls CallsIn

theorem infoI64 : (Try.prog.info? 2).map (fun i => (i.zero, i.size, i.bytes)) = some (some (.int .i64 0), 1, 8) := by kernel_rfl
set_option maxHeartbeats 400000 in
/-- slices.Clone: a row of its own; nil of nil. -/
theorem clone_int (R : Nat → Prop) (ao : Option Addr) (n cap : Nat) (cs : List Value) (w : World) (hv : Vw w 1 R ao n cs) (hnil : ao = none → n = 0) (h1 : ∀ u ∈ cs, u.oneCell' = true) (hb : n * 8 ≤ 140737488355328) :
    Calls Try.prog 15 #[.slice ao n cap] w fun e w' => ∃ ao' cap', e = .returned (.slice ao' n cap') ∧ OwnAt w' 2 1 (fun k => w.heap.size ≤ k) ao' n cap' cs ∧ Fr (fun _ => False) w w' ∧ (ao = none → ao' = none) := by
  obtain ⟨i0, hi, hz0, hz1, hz2⟩ := info_parts infoI64
  have hen := fun (w : World) (a : Option Addr) (n c n' c' : Nat) => Lib.run_eql_slice_nil (P := Try.prog) w 23 2 a n c n' c' Try.underlying23
  cases ao with
  | none =>
    have hn := hnil rfl
    subst hn
    obtain rfl : cs = [] := List.eq_nil_of_length_eq_zero (by simpa using hv.1)
    go_enter Try.func15, Try.ntmps15
    go_wp2
    go_ret
    exact ⟨none, 0, rfl, OwnAt.nil _ _ _ _ _, Fr.refl _ _, by simp⟩
  | some ad =>
    have HV := hid hv
    have H1 := hid h1
    have HB := hid hb
    clear hv h1 hb hnil
    go_enter Try.func15, Try.ntmps15
    go_wp2_with (at_builtin; refine wpList_append_Own _ rfl (.tmp 5) (.tmp 6) 23 rfl 2 i0 (.int .i64 0) 1 8 Try.underlying23 hi hz0 hz1 hz2 rfl (by decide) (fun k => w.heap.size ≤ k) R (some ⟨w.heap.size, 0, none⟩) 0 0 [] rfl (OwnAt.nil _ _ _ _ _) (some ad) n cap cs rfl (HV.out.fr (S := fun _ => False) (by (repeat' (first | with_reducible exact Fr.refl _ _ | with_reducible apply Fr.alloc | with_reducible apply Fr.drew | with_reducible apply Fr.drewN | (with_reducible refine Fr.setCell ?_ ?_ _)))) (fun _ _ h => h)) H1.out ?b1 ?b2 ?grow)
    case b1 => unfold maxLen; have := HB.out; omega
    case b2 => have := HB.out; omega
    case grow =>
      intro ao' cap' w1 ho1 hf1
      have HO1 := hid ho1
      have HF1 := hid hf1
      clear ho1 hf1
      go_wp2
      go_ret
      refine ⟨ao', cap', rfl, HO1.out.mono (fun k _ h => ?_), ?_, by simp⟩
      · first | omega | (simp at h; omega)
      · have h0 : Fr (fun _ => False) w (w.alloc (.cells #[] 2)) := by (repeat' (first | with_reducible exact Fr.refl _ _ | with_reducible apply Fr.alloc | with_reducible apply Fr.drew | with_reducible apply Fr.drewN | (with_reducible refine Fr.setCell ?_ ?_ _)))
        exact h0.trans HF1.out (fun k hk h => by omega)

theorem infoINS : (Try.prog.info? 42).map (fun i => (i.zero, i.size, i.bytes)) = some (some (.agg #[.int .i64 0, .int .i64 0, .int .i64 0, .int .i64 0, .int .i64 0, .int .i64 0, .int .i64 0]), 7, 56) := by kernel_rfl
set_option maxHeartbeats 400000 in
/-- slices.Clone: a row of its own; nil of nil. -/
theorem clone_code (R : Nat → Prop) (ao : Option Addr) (n cap : Nat) (cs : List Value) (w : World) (hv : Vw w 7 R ao n cs) (hnil : ao = none → n = 0) (h1 : ∀ u ∈ cs, u.oneCell' = true) (hb : n * 56 ≤ 140737488355328) :
    Calls Try.prog 16 #[.slice ao n cap] w fun e w' => ∃ ao' cap', e = .returned (.slice ao' n cap') ∧ OwnAt w' 42 7 (fun k => w.heap.size ≤ k) ao' n cap' cs ∧ Fr (fun _ => False) w w' ∧ (ao = none → ao' = none) := by
  obtain ⟨i0, hi, hz0, hz1, hz2⟩ := info_parts infoINS
  have hen := fun (w : World) (a : Option Addr) (n c n' c' : Nat) => Lib.run_eql_slice_nil (P := Try.prog) w 40 42 a n c n' c' Try.underlying40
  cases ao with
  | none =>
    have hn := hnil rfl
    subst hn
    obtain rfl : cs = [] := List.eq_nil_of_length_eq_zero (by simpa using hv.1)
    go_enter Try.func16, Try.ntmps16
    go_wp2
    go_ret
    exact ⟨none, 0, rfl, OwnAt.nil _ _ _ _ _, Fr.refl _ _, by simp⟩
  | some ad =>
    have HV := hid hv
    have H1 := hid h1
    have HB := hid hb
    clear hv h1 hb hnil
    go_enter Try.func16, Try.ntmps16
    go_wp2_with (at_builtin; refine wpList_append_Own _ rfl (.tmp 5) (.tmp 6) 40 rfl 42 i0 (.agg #[.int .i64 0, .int .i64 0, .int .i64 0, .int .i64 0, .int .i64 0, .int .i64 0, .int .i64 0]) 7 56 Try.underlying40 hi hz0 hz1 hz2 rfl (by decide) (fun k => w.heap.size ≤ k) R (some ⟨w.heap.size, 0, none⟩) 0 0 [] rfl (OwnAt.nil _ _ _ _ _) (some ad) n cap cs rfl (HV.out.fr (S := fun _ => False) (by (repeat' (first | with_reducible exact Fr.refl _ _ | with_reducible apply Fr.alloc | with_reducible apply Fr.drew | with_reducible apply Fr.drewN | (with_reducible refine Fr.setCell ?_ ?_ _)))) (fun _ _ h => h)) H1.out ?b1 ?b2 ?grow)
    case b1 => unfold maxLen; have := HB.out; omega
    case b2 => have := HB.out; omega
    case grow =>
      intro ao' cap' w1 ho1 hf1
      have HO1 := hid ho1
      have HF1 := hid hf1
      clear ho1 hf1
      go_wp2
      go_ret
      refine ⟨ao', cap', rfl, HO1.out.mono (fun k _ h => ?_), ?_, by simp⟩
      · first | omega | (simp at h; omega)
      · have h0 : Fr (fun _ => False) w (w.alloc (.cells #[] 42)) := by (repeat' (first | with_reducible exact Fr.refl _ _ | with_reducible apply Fr.alloc | with_reducible apply Fr.drew | with_reducible apply Fr.drewN | (with_reducible refine Fr.setCell ?_ ?_ _)))
        exact h0.trans HF1.out (fun k hk h => by omega)


namespace Seq

theorem memory_is (B ob : Nat) (R : Nat → Prop) (ids : List (Nat × Nat)) (m : M) (w : World) (h : RunRep w B R ids ob m) (hn : m.mem.length ≤ 1000) :
    Calls Try.prog 11 #[.pointer (some ⟨B, 0, none⟩)] w fun e w' => ∃ a c, e = .returned (.slice a m.mem.length c) ∧ OwnAt w' 2 1 (fun k => w.heap.size ≤ k) a m.mem.length c (ints m.mem) ∧ Fr (fun _ => False) w w' := by
  obtain ⟨ta, tc, ma, mc, hb, _, hm⟩ := h.head
  have b1 : w.cell? ⟨B, 1, none⟩ = some (.slice ma m.mem.length mc) := (hb.cell 1).trans rfl
  have hlt := hb.lt
  have hp := ownPtr hm
  have HM := hid hm.vw
  clear hb hm h
  generalize m.mem.length = L at *
  go_enter Try.func11, Try.ntmps11
  go_wp2_with (first | (go_at_call 15; refine (clone_int R ma L mc (ints m.mem) w HM.out (fun e => by rcases hp with hp | ⟨r, off, hp⟩; exact hp; rw [e] at hp; cases hp) (ints_one _) (by omega)).mono ?_; rintro e w1 ⟨a, c, rfl, ho, hf, _⟩; have HO := hid ho; have HF := hid hf; clear ho hf) | still_step | (with_reducible refine wpStill_nil ?_) | (with_reducible refine Flow.Both.mk ?_ ?_) | (with_reducible exact True.intro) | (with_reducible refine Flow.same_mk rfl rfl rfl ?_; go_simp; done) | (with_reducible exact Flow.same_un rfl rfl rfl) | (refine Flow.region_still mixed ?hB ?_; (case hB => decide +kernel)))
  go_ret
  exact ⟨a, c, rfl, HO.out, HF.out⟩

theorem numbers_is (R R2 : Nat → Prop) (ax ay : Option Addr) (cx cy : Nat) (x y : List Int) (w : World) (hx : Vw w 1 R ax x.length (ints x)) (hy : Vw w 1 R2 ay y.length (ints y)) (hn : x.length ≤ 1000000) :
    Calls Try.prog 10 #[.slice ax x.length cx, .slice ay y.length cy] w fun e w' => e = .returned (.bool (decide (x = y))) ∧ Fr (fun _ => False) w w' := by
  have HX := hid hx
  have HY := hid hy
  obtain ⟨r, hr⟩ : ∃ r, r = decide (x = y) := ⟨_, rfl⟩
  rw [← hr]
  clear hx hy
  by_cases hl : x.length = y.length
  · obtain ⟨L, hL⟩ : ∃ L, L = x.length := ⟨_, rfl⟩
    rw [← hL] at hl
    have hL2 : L = y.length := hl
    rw [← hL, ← hL2]
    rw [← hL] at hn
    have HLX := hid hL
    have HLY := hid hL2
    clear hL hL2 hl
    go_enter Try.func10, Try.ntmps10
    go_wp2_with (first | fail | still_step | (with_reducible refine wpStill_nil ?_) | (with_reducible refine Flow.Both.mk ?_ ?_) | (with_reducible exact True.intro) | (with_reducible refine Flow.same_mk rfl rfl rfl ?_; go_simp; done) | (with_reducible exact Flow.same_un rfl rfl rfl) | (refine Flow.region_still mixed ?hB ?_; (case hB => decide +kernel)))
    go_loopw [5] (fun i wr => ∃ k : Nat, k ≤ L ∧ i = .int .i64 k ∧ x.take k = y.take k ∧ Fr (fun _ => False) w wr) (fun i _ => L - (intOf i).toNat)
    case atStart => exact ⟨0, Nat.zero_le _, rfl, rfl, Fr.refl _ _⟩
    case round =>
      obtain ⟨k, hk, rfl, hsame, hf⟩ := hrel
      have HF := hid hf
      have HS := hid hsame
      clear hf hsame
      by_cases hlt : k < L
      · have hkx : k < x.length := by have := HLX.out; omega
        have hky : k < y.length := by have := HLY.out; omega
        have hnx : ints x ≠ [] := fun h => by have := congrArg List.length h; rw [ints_length, List.length_nil] at this; omega
        have hny : ints y ≠ [] := fun h => by have := congrArg List.length h; rw [ints_length, List.length_nil] at this; omega
        obtain ⟨r1, off, rfl, _, hc⟩ := (HX.out.fr HF.out (fun _ _ h => h)).cell hnx
        obtain ⟨r2, off2, rfl, _, hc2⟩ := (HY.out.fr HF.out (fun _ _ h => h)).cell hny
        have d0 := hc k _ (ints_get' x k hkx)
        have e0 := hc2 k _ (ints_get' y k hky)
        have hxk : x.take (k + 1) = x.take k ++ [x[k]] := by rw [List.take_succ_eq_append_getElem hkx]
        have hyk : y.take (k + 1) = y.take k ++ [y[k]] := by rw [List.take_succ_eq_append_getElem hky]
        by_cases he : x[k] = y[k]
        · have hs2 : x.take (k + 1) = y.take (k + 1) := by rw [hxk, hyk, HS.out, he]
          have HS2 := hid hs2
          rw [← he] at e0
          clear hc hc2 hnx hny hxk hyk hs2 he
          generalize x[k] = u at *
          go_wp2_with (first | fail | still_step | (with_reducible refine wpStill_nil ?_) | (with_reducible refine Flow.Both.mk ?_ ?_) | (with_reducible exact True.intro) | (with_reducible refine Flow.same_mk rfl rfl rfl ?_; go_simp; done) | (with_reducible exact Flow.same_un rfl rfl rfl) | (refine Flow.region_still mixed ?hB ?_; (case hB => decide +kernel)))
          go_roundw
          case rel =>
            have hrl : ∃ k_1 : Nat, k_1 ≤ L ∧ (Value.int .i64 ((k : Int) + 1)) = .int .i64 k_1 ∧ x.take k_1 = y.take k_1 ∧ Fr (fun _ => False) w wr.drew := ⟨k + 1, by omega, by go_num, HS2.out, HF.out.drew⟩
            first | exact hrl | ((repeat apply Exists.intro); exact ⟨hrl, rfl⟩)
          case measure => simp [intOf]; omega
        · have hrf : r = false := by
            rw [hr, decide_eq_false_iff_not]
            intro e; subst e; exact he rfl
          subst hrf
          clear hc hc2 hnx hny hxk hyk hr
          generalize x[k] = u at *
          generalize y[k] = v at *
          go_wp2_with (first | fail | still_step | (with_reducible refine wpStill_nil ?_) | (with_reducible refine Flow.Both.mk ?_ ?_) | (with_reducible exact True.intro) | (with_reducible refine Flow.same_mk rfl rfl rfl ?_; go_simp; done) | (with_reducible exact Flow.same_un rfl rfl rfl) | (refine Flow.region_still mixed ?hB ?_; (case hB => decide +kernel)))
          go_ret
          exact ⟨rfl, HF.out.drew⟩
      · obtain rfl : k = L := by omega
        have hrt : r = true := by
          rw [hr, decide_eq_true_eq]
          have := HS.out
          rwa [List.take_of_length_le (by have := HLX.out; omega), List.take_of_length_le (by have := HLY.out; omega)] at this
        subst hrt
        go_wp2_with (first | fail | still_step | (with_reducible refine wpStill_nil ?_) | (with_reducible refine Flow.Both.mk ?_ ?_) | (with_reducible exact True.intro) | (with_reducible refine Flow.same_mk rfl rfl rfl ?_; go_simp; done) | (with_reducible exact Flow.same_un rfl rfl rfl) | (refine Flow.region_still mixed ?hB ?_; (case hB => decide +kernel)))
        go_ret
        exact ⟨rfl, HF.out⟩
  · have hrf : r = false := by
      rw [hr, decide_eq_false_iff_not]
      intro e; subst e; exact hl rfl
    subst hrf
    clear hr HX HY
    generalize x.length = n at *
    generalize y.length = n2 at *
    go_enter Try.func10, Try.ntmps10
    go_wp2_with (first | fail | still_step | (with_reducible refine wpStill_nil ?_) | (with_reducible refine Flow.Both.mk ?_ ?_) | (with_reducible exact True.intro) | (with_reducible refine Flow.same_mk rfl rfl rfl ?_; go_simp; done) | (with_reducible exact Flow.same_un rfl rfl rfl) | (refine Flow.region_still mixed ?hB ?_; (case hB => decide +kernel)))
    go_ret
    exact ⟨rfl, by (repeat' (first | with_reducible exact Fr.refl _ _ | with_reducible apply Fr.alloc | with_reducible apply Fr.drew | with_reducible apply Fr.drewN | (with_reducible refine Fr.setCell ?_ ?_ _)))⟩

/-- Codes as they lie: the row of slices, and each of them. -/
structure Codes (w : World) (R : Nat → Prop) (ao : Option Addr) (qs : List ((Option Addr × Nat) × List Ins)) : Prop where
  vw : Vw w 1 R ao qs.length (qs.map fun q => .slice q.1.1 q.2.length q.1.2)
  inn : ∀ q ∈ qs, Vw w 7 R q.1.1 q.2.length (codeC q.2) ∧ (q.1.1 = none → q.2.length = 0)

theorem Codes.fr {w w1 : World} {R S : Nat → Prop} {ao : Option Addr} {qs : List ((Option Addr × Nat) × List Ins)} (h : Codes w R ao qs) (hf : Fr S w w1) (hn : ∀ k, R k → ¬ S k) : Codes w1 R ao qs :=
  ⟨h.vw.fr hf hn, fun q hq => ⟨(h.inn q hq).1.fr hf hn, (h.inn q hq).2⟩⟩

theorem Codes.cell {w : World} {R : Nat → Prop} {ao : Option Addr} {qs : List ((Option Addr × Nat) × List Ins)} (h : Codes w R ao qs) {k : Nat} (hk : k < qs.length) :
    ∃ r off, ao = some ⟨r, off, none⟩ ∧ w.cell? ⟨r, off + k, none⟩ = some (.slice qs[k].1.1 qs[k].2.length qs[k].1.2) := by
  have hne : (qs.map fun q => Value.slice q.1.1 q.2.length q.1.2) ≠ [] := fun e => by have := congrArg List.length e; simp at this; subst this; simp at hk
  obtain ⟨r, off, e, _, hc⟩ := h.vw.cell hne
  exact ⟨r, off, e, hc k _ (by simp [hk])⟩

def smallB (qs : List ((Option Addr × Nat) × List Ins)) (n : Nat) : Bool := qs.all (fun q => decide (q.2.length ≤ 100)) && (decide (qs.length ≤ 6) && decide (n ≤ 100))

theorem small_is (R : Nat → Prop) (ao am : Option Addr) (co cm n : Nat) (qs : List ((Option Addr × Nat) × List Ins)) (w : World) (h : Codes w R ao qs) (hq : qs.length ≤ 9223372036854775807) (hn : n ≤ 9223372036854775807) :
    Calls Try.prog 7 #[.slice ao qs.length co, .slice am n cm] w fun e w' => e = .returned (.bool (smallB qs n)) ∧ Fr (fun _ => False) w w' := by
  obtain ⟨res, hres⟩ : ∃ res, res = smallB qs n := ⟨_, rfl⟩
  rw [← hres]
  have HC := hid h
  clear h
  obtain ⟨L, hL⟩ : ∃ L, L = qs.length := ⟨_, rfl⟩
  rw [← hL] at hq
  rw [← hL]
  go_enter Try.func7, Try.ntmps7
  go_wp2_with (first | fail | still_step | (with_reducible refine wpStill_nil ?_) | (with_reducible refine Flow.Both.mk ?_ ?_) | (with_reducible exact True.intro) | (with_reducible refine Flow.same_mk rfl rfl rfl ?_; go_simp; done) | (with_reducible exact Flow.same_un rfl rfl rfl) | (refine Flow.region_still mixed ?hB ?_; (case hB => decide +kernel)))
  go_loopw [5] (fun i wr => ∃ k : Nat, k ≤ L ∧ i = .int .i64 k ∧ (∀ (j : Nat) (q : (Option Addr × Nat) × List Ins), j < k → qs[j]? = some q → q.2.length ≤ 100) ∧ Fr (fun _ => False) w wr) (fun i _ => L - (intOf i).toNat)
  case atStart => exact ⟨0, Nat.zero_le _, rfl, fun j q h => absurd h (Nat.not_lt_zero _), Fr.refl _ _⟩
  case round =>
    obtain ⟨k, hk, rfl, hall, hf⟩ := hrel
    have HF := hid hf
    clear hf
    by_cases hlt : k < L
    · have hkl : k < qs.length := by omega
      obtain ⟨r, off, rfl, hcell⟩ := (HC.out.fr HF.out (fun _ _ h => h)).cell hkl
      have hqk : qs[k]? = some qs[k] := by simp [hkl]
      by_cases hbig : qs[k].2.length ≤ 100
      · have hall2 : ∀ (j : Nat) (q : (Option Addr × Nat) × List Ins), j < k + 1 → qs[j]? = some q → q.2.length ≤ 100 := fun j q hj hq2 => by
          by_cases hjk : j = k
          · subst hjk; rw [hqk] at hq2; obtain rfl := Option.some.inj hq2; exact hbig
          · exact hall j q (by omega) hq2
        have HA := hid hall2
        clear hall hall2 hqk hres
        generalize qs[k].2.length = len at *
        generalize qs[k].1.1 = sp at *
        generalize qs[k].1.2 = sc at *
        go_wp2_with (first | fail | still_step | (with_reducible refine wpStill_nil ?_) | (with_reducible refine Flow.Both.mk ?_ ?_) | (with_reducible exact True.intro) | (with_reducible refine Flow.same_mk rfl rfl rfl ?_; go_simp; done) | (with_reducible exact Flow.same_un rfl rfl rfl) | (refine Flow.region_still mixed ?hB ?_; (case hB => decide +kernel)))
        go_roundw
        case rel =>
          have hrl : ∃ k_1 : Nat, k_1 ≤ L ∧ (Value.int .i64 ((k : Int) + 1)) = .int .i64 k_1 ∧ (∀ (j : Nat) (q : (Option Addr × Nat) × List Ins), j < k_1 → qs[j]? = some q → q.2.length ≤ 100) ∧ Fr (fun _ => False) w wr := ⟨k + 1, by omega, by go_num, HA.out, HF.out⟩
          first | exact hrl | ((repeat apply Exists.intro); exact ⟨hrl, rfl⟩)
        case measure => simp [intOf]; omega
      · have hrf : res = false := by
          rw [hres]
          unfold smallB
          have : qs.all (fun q => decide (q.2.length ≤ 100)) = false := by
            rw [List.all_eq_false]
            exact ⟨qs[k], List.getElem_mem hkl, by simpa using hbig⟩
          rw [this]; rfl
        subst hrf
        clear hall hqk hres
        generalize qs[k].2.length = len at *
        generalize qs[k].1.1 = sp at *
        generalize qs[k].1.2 = sc at *
        go_wp2_with (first | fail | still_step | (with_reducible refine wpStill_nil ?_) | (with_reducible refine Flow.Both.mk ?_ ?_) | (with_reducible exact True.intro) | (with_reducible refine Flow.same_mk rfl rfl rfl ?_; go_simp; done) | (with_reducible exact Flow.same_un rfl rfl rfl) | (refine Flow.region_still mixed ?hB ?_; (case hB => decide +kernel)))
        go_ret
        exact ⟨rfl, HF.out⟩
    · obtain rfl : k = L := by omega
      have hall2 : qs.all (fun q => decide (q.2.length ≤ 100)) = true := by
        rw [List.all_eq_true]
        intro q hq2
        obtain ⟨j, hj⟩ := List.mem_iff_getElem?.1 hq2
        have := (List.getElem?_eq_some_iff.1 hj).1
        exact decide_eq_true (hall j q (by omega) hj)
      have hres2 : res = (decide (k ≤ 6) && decide (n ≤ 100)) := by rw [hres, hL]; unfold smallB; rw [hall2]; rfl
      clear hall hall2 hres HC hL
      by_cases h6 : k ≤ 6
      · by_cases h100 : n ≤ 100
        · obtain rfl : res = true := by rw [hres2]; simp [h6, h100]
          clear hres2
          go_wp2_with (first | fail | still_step | (with_reducible refine wpStill_nil ?_) | (with_reducible refine Flow.Both.mk ?_ ?_) | (with_reducible exact True.intro) | (with_reducible refine Flow.same_mk rfl rfl rfl ?_; go_simp; done) | (with_reducible exact Flow.same_un rfl rfl rfl) | (refine Flow.region_still mixed ?hB ?_; (case hB => decide +kernel)))
          go_ret
          exact ⟨by simp; omega, HF.out⟩
        · obtain rfl : res = false := by rw [hres2]; simp [h100]
          clear hres2
          go_wp2_with (first | fail | still_step | (with_reducible refine wpStill_nil ?_) | (with_reducible refine Flow.Both.mk ?_ ?_) | (with_reducible exact True.intro) | (with_reducible refine Flow.same_mk rfl rfl rfl ?_; go_simp; done) | (with_reducible exact Flow.same_un rfl rfl rfl) | (refine Flow.region_still mixed ?hB ?_; (case hB => decide +kernel)))
          go_ret
          exact ⟨by simp; omega, HF.out⟩
      · obtain rfl : res = false := by rw [hres2]; simp [h6]
        clear hres2
        go_wp2_with (first | fail | still_step | (with_reducible refine wpStill_nil ?_) | (with_reducible refine Flow.Both.mk ?_ ?_) | (with_reducible exact True.intro) | (with_reducible refine Flow.same_mk rfl rfl rfl ?_; go_simp; done) | (with_reducible exact Flow.same_un rfl rfl rfl) | (refine Flow.region_still mixed ?hB ?_; (case hB => decide +kernel)))
        go_ret
        exact ⟨rfl, HF.out⟩
end Seq
end Go.Proofs.Ytokmdjpaegaojaa
