/-
  What the small functions of package seq do: set, next, get, Place, Reg ..
-/
import Derived.Test.YtokmdjpaegaojaaSeqR
namespace Go.Proofs.Ytokmdjpaegaojaa.Seq
open Go.RowKit
attribute [local irreducible] wpStill wpList Calls CallsIn

theorem under_regs : Try.prog.underlying 57 = some (.map 3 2) := by kernel_rfl
theorem under_own : Try.prog.underlying 51 = some (.map 2 3) := by kernel_rfl
theorem under_i64 : Try.prog.underlying 2 = some (.int .i64) := by kernel_rfl
theorem zero_i64 : (Try.prog.info? 2).map (fun i => i.zero) = some (some (.int .i64 0)) := by kernel_rfl
theorem zero_int : (Try.prog.info? 3).map (fun i => i.zero) = some (some (.int .i64 0)) := by kernel_rfl

theorem set_is (tb rb : Nat) (c0 c1 c3 : Value) (f : Int → Option Int) (n x : Int) (w : World) (hb : Blk w tb #[c0, c1, .map (some rb), c3] 59) (hm : MapF w rb .i64 (regC f)) :
    Calls Try.prog 25 #[.pointer (some ⟨tb, 0, none⟩), .int .i64 n, .int .i64 x] w fun e w' => e = .returned (.tuple #[]) ∧ MapF w' rb .i64 (regC (if 0 ≤ n then updI f n (some x) else f)) ∧ Fr (fun k => k = rb) w w' := by
  have b2 : w.cell? ⟨tb, 2, none⟩ = some (.map (some rb)) := (hb.cell 2).trans rfl
  have HM := hid hm
  clear hm hb
  by_cases hn : 0 ≤ n
  · rw [if_pos hn, regC_upd]
    go_enter Try.func25, Try.ntmps25
    go_wp2_with (first | (refine wpList_insert (n := n) (u := .int .i64 x) rfl (.tmp 11) (.tmp 12) (.tmp 13) (.inr rfl) under_regs under_int rfl rfl HM.out rfl ?_; intro w1 hm hf; have HM1 := hid hm; have HF1 := hid hf; clear hm hf) | still_step | (with_reducible refine wpStill_nil ?_) | (with_reducible refine Flow.Both.mk ?_ ?_) | (with_reducible exact True.intro) | (with_reducible refine Flow.same_mk rfl rfl rfl ?_; go_simp; done) | (with_reducible exact Flow.same_un rfl rfl rfl) | (refine Flow.region_still mixed ?hB ?_; (case hB => decide +kernel)))
    go_end0
    exact ⟨rfl, HM1.out, HF1.out⟩
  · rw [if_neg hn]
    go_enter Try.func25, Try.ntmps25
    go_wp2_with (first | fail | still_step | (with_reducible refine wpStill_nil ?_) | (with_reducible refine Flow.Both.mk ?_ ?_) | (with_reducible exact True.intro) | (with_reducible refine Flow.same_mk rfl rfl rfl ?_; go_simp; done) | (with_reducible exact Flow.same_un rfl rfl rfl) | (refine Flow.region_still mixed ?hB ?_; (case hB => decide +kernel)))
    go_end0
    exact ⟨rfl, HM.out, by (repeat' (first | with_reducible exact Fr.refl _ _ | with_reducible apply Fr.alloc | with_reducible apply Fr.drew | with_reducible apply Fr.drewN | (with_reducible refine Fr.setCell ?_ ?_ _)))⟩

theorem codeC_get (c : List Ins) : ∀ (j : Nat) (i : Ins), c[j]? = some i → ∀ (d : Nat) (v : Value), (insC i)[d]? = some v → (codeC c)[j * 7 + d]? = some v := by
  induction c with
  | nil => intro j i h; simp at h
  | cons e c ih =>
    intro j i h d v hv
    have hd : d < 7 := by have := (List.getElem?_eq_some_iff.1 hv).1; simpa [insC] using this
    cases j with
    | zero =>
      simp at h
      subst h
      simp only [codeC, List.flatMap_cons, Nat.zero_mul, Nat.zero_add]
      rw [List.getElem?_append_left (by simpa [insC] using hd)]
      exact hv
    | succ j =>
      have := ih j i (by simpa using h) d v hv
      simp only [codeC, List.flatMap_cons]
      rw [List.getElem?_append_right (by simp [insC]; omega)]
      rw [show (j + 1) * 7 + d - (insC e).length = j * 7 + d by simp [insC]; omega]
      exact this

set_option maxHeartbeats 1000000 in
theorem next_is (C : Nat → Prop) (tb rb : Nat) (t : Th) (w : World) (h : ThRep w C tb rb t) :
    Calls Try.prog 23 #[.pointer (some ⟨tb, 0, none⟩)] w fun e w' => e = .returned (.agg (insC t.next).toArray) ∧ Fr (fun _ => False) w w' := by
  obtain ⟨ca, cc, hb, ho, _⟩ := h
  have b0 : w.cell? ⟨tb, 0, none⟩ = some (.slice ca t.code.length cc) := (hb.cell 0).trans rfl
  have b1 : w.cell? ⟨tb, 1, none⟩ = some (.int .i64 t.at_) := (hb.cell 1).trans rfl
  have hlt := hb.lt
  have HO := hid ho
  clear ho hb
  obtain ⟨r, hr⟩ : ∃ r, r = t.next := ⟨_, rfl⟩
  rw [← hr]
  by_cases h0 : 0 ≤ t.at_
  · by_cases h1 : t.at_ < t.code.length
    · obtain ⟨k, hk⟩ : ∃ k : Nat, t.at_ = k := ⟨t.at_.toNat, by omega⟩
      have hkl : k < t.code.length := by omega
      have hn : r = t.code[k] := by rw [hr]; unfold Th.next; rw [if_pos ⟨h0, h1⟩, hk]; simp [hkl]
      have hne : codeC t.code ≠ [] := fun e => by have := codeC_length t.code; rw [e] at this; simp at this; omega
      obtain ⟨rc, offc, rfl, _, hc⟩ := HO.out.vw.cell hne
      have hj : t.code[k]? = some t.code[k] := by simp [hkl]
      have q0 := hc (k * 7) _ (codeC_get t.code k _ hj 0 _ rfl)
      have q1 : w.cell? ⟨rc, offc + k * 7 + 1, none⟩ = _ := hc (k * 7 + 1) _ (codeC_get t.code k _ hj 1 _ rfl)
      have q2 : w.cell? ⟨rc, offc + k * 7 + 2, none⟩ = _ := hc (k * 7 + 2) _ (codeC_get t.code k _ hj 2 _ rfl)
      have q3 : w.cell? ⟨rc, offc + k * 7 + 3, none⟩ = _ := hc (k * 7 + 3) _ (codeC_get t.code k _ hj 3 _ rfl)
      have q4 : w.cell? ⟨rc, offc + k * 7 + 4, none⟩ = _ := hc (k * 7 + 4) _ (codeC_get t.code k _ hj 4 _ rfl)
      have q5 : w.cell? ⟨rc, offc + k * 7 + 5, none⟩ = _ := hc (k * 7 + 5) _ (codeC_get t.code k _ hj 5 _ rfl)
      have q6 : w.cell? ⟨rc, offc + k * 7 + 6, none⟩ = _ := hc (k * 7 + 6) _ (codeC_get t.code k _ hj 6 _ rfl)
      have hrl := World.block_lt_of_cell? _ _ q0
      dsimp only at hrl
      rw [← hn] at q0 q1 q2 q3 q4 q5 q6
      rw [hk] at b1
      clear hr hn hj hc hne HO h0 h1
      generalize t.code.length = L at *
      go_enter Try.func23, Try.ntmps23
      go_wp2_with (first | fail | still_step | (with_reducible refine wpStill_nil ?_) | (with_reducible refine Flow.Both.mk ?_ ?_) | (with_reducible exact True.intro) | (with_reducible refine Flow.same_mk rfl rfl rfl ?_; go_simp; done) | (with_reducible exact Flow.same_un rfl rfl rfl) | (with_reducible refine Flow.region_flow (id := 3) [0, 1, 3, 7, 0, 16, 48, 112, 255, 511, 1023] 1024 1006 [(0, none), (1, none), (2, none), (3, none), (4, none), (5, none), (6, none), (7, none), (8, none), (9, none), (10, some [])] mixed ?hB ?_; (case hB => decide +kernel); simp only [Flow.textOf, List.map_cons, List.map_nil, Option.map_none, Option.map_some, Array.getD_eq_getD_getElem?, List.getElem?_toArray, List.getElem?_cons_zero, List.getElem?_cons_succ, Option.getD_some, Flow.wpFl, Flow.SameAll]) | (refine Flow.region_still mixed ?hB ?_; (case hB => decide +kernel)))
      exact bodyPost_ret (v := .agg (insC r).toArray) (by simp [results, Try.results23, go_sem, insC]) rfl ⟨rfl, by (repeat' (first | with_reducible exact Fr.refl _ _ | with_reducible apply Fr.alloc | with_reducible apply Fr.drew | with_reducible apply Fr.drewN | (with_reducible refine Fr.setCell ?_ ?_ _)))⟩
    · have hn : r = ⟨13, 0, 0, 0, 0, 0, 0⟩ := by rw [hr]; unfold Th.next; rw [if_neg (fun h => h1 h.2)]
      subst hn
      clear hr HO
      generalize t.code.length = L at *
      generalize t.at_ = k at *
      go_enter Try.func23, Try.ntmps23
      go_wp2_with (first | fail | still_step | (with_reducible refine wpStill_nil ?_) | (with_reducible refine Flow.Both.mk ?_ ?_) | (with_reducible exact True.intro) | (with_reducible refine Flow.same_mk rfl rfl rfl ?_; go_simp; done) | (with_reducible exact Flow.same_un rfl rfl rfl) | (with_reducible refine Flow.region_flow (id := 3) [0, 1, 3, 7, 0, 16, 48, 112, 255, 511, 1023] 1024 1006 [(0, none), (1, none), (2, none), (3, none), (4, none), (5, none), (6, none), (7, none), (8, none), (9, none), (10, some [])] mixed ?hB ?_; (case hB => decide +kernel); simp only [Flow.textOf, List.map_cons, List.map_nil, Option.map_none, Option.map_some, Array.getD_eq_getD_getElem?, List.getElem?_toArray, List.getElem?_cons_zero, List.getElem?_cons_succ, Option.getD_some, Flow.wpFl, Flow.SameAll]) | (refine Flow.region_still mixed ?hB ?_; (case hB => decide +kernel)))
      exact bodyPost_ret (v := .agg (insC ⟨13, 0, 0, 0, 0, 0, 0⟩).toArray) (by simp [results, Try.results23, go_sem, insC]) rfl ⟨rfl, by (repeat' (first | with_reducible exact Fr.refl _ _ | with_reducible apply Fr.alloc | with_reducible apply Fr.drew | with_reducible apply Fr.drewN | (with_reducible refine Fr.setCell ?_ ?_ _)))⟩
  · have hn : r = ⟨13, 0, 0, 0, 0, 0, 0⟩ := by rw [hr]; unfold Th.next; rw [if_neg (fun h => h0 h.1)]
    subst hn
    clear hr HO
    generalize t.code.length = L at *
    generalize t.at_ = k at *
    go_enter Try.func23, Try.ntmps23
    go_wp2_with (first | fail | still_step | (with_reducible refine wpStill_nil ?_) | (with_reducible refine Flow.Both.mk ?_ ?_) | (with_reducible exact True.intro) | (with_reducible refine Flow.same_mk rfl rfl rfl ?_; go_simp; done) | (with_reducible exact Flow.same_un rfl rfl rfl) | (with_reducible refine Flow.region_flow (id := 3) [0, 1, 3, 7, 0, 16, 48, 112, 255, 511, 1023] 1024 1006 [(0, none), (1, none), (2, none), (3, none), (4, none), (5, none), (6, none), (7, none), (8, none), (9, none), (10, some [])] mixed ?hB ?_; (case hB => decide +kernel); simp only [Flow.textOf, List.map_cons, List.map_nil, Option.map_none, Option.map_some, Array.getD_eq_getD_getElem?, List.getElem?_toArray, List.getElem?_cons_zero, List.getElem?_cons_succ, Option.getD_some, Flow.wpFl, Flow.SameAll]) | (refine Flow.region_still mixed ?hB ?_; (case hB => decide +kernel)))
    exact bodyPost_ret (v := .agg (insC ⟨13, 0, 0, 0, 0, 0, 0⟩).toArray) (by simp [results, Try.results23, go_sem, insC]) rfl ⟨rfl, by (repeat' (first | with_reducible exact Fr.refl _ _ | with_reducible apply Fr.alloc | with_reducible apply Fr.drew | with_reducible apply Fr.drewN | (with_reducible refine Fr.setCell ?_ ?_ _)))⟩

def wordPtr (ma : Option Addr) (x : Option Nat) : Option Addr := match x, ma with | some x, some a => some ⟨a.block, a.off + x, none⟩ | _, _ => none

set_option maxHeartbeats 1000000 in
theorem word_is (B tb rb : Nat) (ma : Option Addr) (mc : Nat) (mem : List Int) (t : Th) (i : Ins) (w : World) (hB : w.cell? ⟨B, 1, none⟩ = some (.slice ma mem.length mc)) (hma : mem.length = 0 ∨ ∃ r off, ma = some ⟨r, off, none⟩)
    (ht : w.cell? ⟨tb, 2, none⟩ = some (.map (some rb))) (hm : MapF w rb .i64 (regC t.regs)) :
    Calls Try.prog 27 #[.pointer (some ⟨B, 0, none⟩), .pointer (some ⟨tb, 0, none⟩), .agg (insC i).toArray] w fun e w' => e = .returned (.pointer (wordPtr ma (word mem t i))) ∧ Fr (fun _ => False) w w' := by
  have hl := run_look under_regs under_int hm i.a (run_zero zero_i64 w) false
  have hz : ((regC t.regs) i.a).getD (.int .i64 0) = .int .i64 (t.get i.a) := by unfold regC Th.get; cases t.regs i.a <;> rfl
  simp only [hz] at hl
  have hlb := World.block_lt_of_cell? _ _ hB
  have hlt := World.block_lt_of_cell? _ _ ht
  dsimp only at hlb hlt
  have hl2 := run_look (w := (w.alloc (.cells (insC i).toArray 42)).drew) under_regs under_int (hm.fr (S := fun _ => False) (by (repeat' (first | with_reducible exact Fr.refl _ _ | with_reducible apply Fr.alloc | with_reducible apply Fr.drew | with_reducible apply Fr.drewN | (with_reducible refine Fr.setCell ?_ ?_ _)))) (fun h => h)) i.a (run_zero zero_i64 _) false
  simp only [hz] at hl2
  simp [insC] at hl2
  unfold word
  clear hm hl hz
  obtain ⟨k, op, d, a, b, n, to⟩ := i
  dsimp only [insC] at *
  generalize t.get a = g at *
  obtain ⟨r, hr⟩ : ∃ r, r = wordPtr ma (let w := if 0 ≤ a then wrap64 (n + g) else n; if w < 0 ∨ (mem.length : Int) ≤ w then none else some w.toNat) := ⟨_, rfl⟩
  rw [← hr]
  by_cases ha : 0 ≤ a
  · rw [if_pos ha] at hr
    dsimp only at hr
    by_cases h0 : wrap64 (n + g) < 0
    · rw [if_pos (.inl h0)] at hr
      obtain rfl : r = none := by rw [hr]; cases ma <;> rfl
      clear hr
      go_enter Try.func27, Try.ntmps27
      go_wp2_with (first | fail | still_step | (with_reducible refine wpStill_nil ?_) | (with_reducible refine Flow.Both.mk ?_ ?_) | (with_reducible exact True.intro) | (with_reducible refine Flow.same_mk rfl rfl rfl ?_; go_simp; done) | (with_reducible exact Flow.same_un rfl rfl rfl) | (refine Flow.region_still mixed ?hB ?_; (case hB => decide +kernel)))
      go_ret
      exact ⟨rfl, by (repeat' (first | with_reducible exact Fr.refl _ _ | with_reducible apply Fr.alloc | with_reducible apply Fr.drew | with_reducible apply Fr.drewN | (with_reducible refine Fr.setCell ?_ ?_ _)))⟩
    · by_cases h1 : (mem.length : Int) ≤ wrap64 (n + g)
      · rw [if_pos (.inr h1)] at hr
        obtain rfl : r = none := by rw [hr]; cases ma <;> rfl
        clear hr
        go_enter Try.func27, Try.ntmps27
        go_wp2_with (first | fail | still_step | (with_reducible refine wpStill_nil ?_) | (with_reducible refine Flow.Both.mk ?_ ?_) | (with_reducible exact True.intro) | (with_reducible refine Flow.same_mk rfl rfl rfl ?_; go_simp; done) | (with_reducible exact Flow.same_un rfl rfl rfl) | (refine Flow.region_still mixed ?hB ?_; (case hB => decide +kernel)))
        go_ret
        exact ⟨rfl, by (repeat' (first | with_reducible exact Fr.refl _ _ | with_reducible apply Fr.alloc | with_reducible apply Fr.drew | with_reducible apply Fr.drewN | (with_reducible refine Fr.setCell ?_ ?_ _)))⟩
      · rw [if_neg (by omega)] at hr
        obtain ⟨rr, off, rfl⟩ := hma.resolve_left (by omega)
        dsimp only [wordPtr] at hr
        subst hr
        go_enter Try.func27, Try.ntmps27
        go_wp2_with (first | fail | still_step | (with_reducible refine wpStill_nil ?_) | (with_reducible refine Flow.Both.mk ?_ ?_) | (with_reducible exact True.intro) | (with_reducible refine Flow.same_mk rfl rfl rfl ?_; go_simp; done) | (with_reducible exact Flow.same_un rfl rfl rfl) | (refine Flow.region_still mixed ?hB ?_; (case hB => decide +kernel)))
        go_ret
        exact ⟨rfl, by (repeat' (first | with_reducible exact Fr.refl _ _ | with_reducible apply Fr.alloc | with_reducible apply Fr.drew | with_reducible apply Fr.drewN | (with_reducible refine Fr.setCell ?_ ?_ _)))⟩
  · rw [if_neg ha] at hr
    dsimp only at hr
    by_cases h0 : n < 0
    · rw [if_pos (.inl h0)] at hr
      obtain rfl : r = none := by rw [hr]; cases ma <;> rfl
      clear hr
      go_enter Try.func27, Try.ntmps27
      go_wp2_with (first | fail | still_step | (with_reducible refine wpStill_nil ?_) | (with_reducible refine Flow.Both.mk ?_ ?_) | (with_reducible exact True.intro) | (with_reducible refine Flow.same_mk rfl rfl rfl ?_; go_simp; done) | (with_reducible exact Flow.same_un rfl rfl rfl) | (refine Flow.region_still mixed ?hB ?_; (case hB => decide +kernel)))
      go_ret
      exact ⟨rfl, by (repeat' (first | with_reducible exact Fr.refl _ _ | with_reducible apply Fr.alloc | with_reducible apply Fr.drew | with_reducible apply Fr.drewN | (with_reducible refine Fr.setCell ?_ ?_ _)))⟩
    · by_cases h1 : (mem.length : Int) ≤ n
      · rw [if_pos (.inr h1)] at hr
        obtain rfl : r = none := by rw [hr]; cases ma <;> rfl
        clear hr
        go_enter Try.func27, Try.ntmps27
        go_wp2_with (first | fail | still_step | (with_reducible refine wpStill_nil ?_) | (with_reducible refine Flow.Both.mk ?_ ?_) | (with_reducible exact True.intro) | (with_reducible refine Flow.same_mk rfl rfl rfl ?_; go_simp; done) | (with_reducible exact Flow.same_un rfl rfl rfl) | (refine Flow.region_still mixed ?hB ?_; (case hB => decide +kernel)))
        go_ret
        exact ⟨rfl, by (repeat' (first | with_reducible exact Fr.refl _ _ | with_reducible apply Fr.alloc | with_reducible apply Fr.drew | with_reducible apply Fr.drewN | (with_reducible refine Fr.setCell ?_ ?_ _)))⟩
      · rw [if_neg (by omega)] at hr
        obtain ⟨rr, off, rfl⟩ := hma.resolve_left (by omega)
        dsimp only [wordPtr] at hr
        subst hr
        go_enter Try.func27, Try.ntmps27
        go_wp2_with (first | fail | still_step | (with_reducible refine wpStill_nil ?_) | (with_reducible refine Flow.Both.mk ?_ ?_) | (with_reducible exact True.intro) | (with_reducible refine Flow.same_mk rfl rfl rfl ?_; go_simp; done) | (with_reducible exact Flow.same_un rfl rfl rfl) | (refine Flow.region_still mixed ?hB ?_; (case hB => decide +kernel)))
        go_ret
        exact ⟨rfl, by (repeat' (first | with_reducible exact Fr.refl _ _ | with_reducible apply Fr.alloc | with_reducible apply Fr.drew | with_reducible apply Fr.drewN | (with_reducible refine Fr.setCell ?_ ?_ _)))⟩

def thPtr (ids : List (Nat × Nat)) (who : Int) : Option Addr := if 0 ≤ who ∧ who < ids.length then (ids[who.toNat]?).map fun p => ⟨p.1, 0, none⟩ else none

theorem get_is (B ob : Nat) (R : Nat → Prop) (ids : List (Nat × Nat)) (m : M) (who : Int) (w : World) (h : RunRep w B R ids ob m) :
    Calls Try.prog 17 #[.pointer (some ⟨B, 0, none⟩), .int .i64 who] w fun e w' => e = .returned (.pointer (thPtr ids who)) ∧ Fr (fun _ => False) w w' := by
  obtain ⟨ta, tc, ma, mc, hb, ho, _⟩ := h.head
  have b0 : w.cell? ⟨B, 0, none⟩ = some (.slice ta ids.length tc) := (hb.cell 0).trans rfl
  have hlt := hb.lt
  have HO := hid ho
  clear ho hb h
  obtain ⟨r, hr⟩ : ∃ r, r = thPtr ids who := ⟨_, rfl⟩
  rw [← hr]
  by_cases h0 : 0 ≤ who
  · by_cases h1 : who < ids.length
    · obtain ⟨k, rfl⟩ : ∃ k : Nat, who = k := ⟨who.toNat, by omega⟩
      have hkl : k < ids.length := by omega
      have hn : r = some ⟨ids[k].1, 0, none⟩ := by rw [hr]; unfold thPtr; rw [if_pos ⟨h0, h1⟩]; simp [hkl]
      have hne : ids.map (fun p => Value.pointer (some ⟨p.1, 0, none⟩)) ≠ [] := fun e => by have := congrArg List.length e; simp at this; subst this; simp at hkl
      obtain ⟨rc, offc, rfl, _, hc⟩ := HO.out.vw.cell hne
      have q0 := hc k (.pointer (some ⟨ids[k].1, 0, none⟩)) (by simp [hkl])
      have hrl := World.block_lt_of_cell? _ _ q0
      dsimp only at hrl
      rw [← hn] at q0
      clear hr hn hc hne HO h0 h1
      generalize ids.length = L at *
      go_enter Try.func17, Try.ntmps17
      go_wp2_with (first | fail | still_step | (with_reducible refine wpStill_nil ?_) | (with_reducible refine Flow.Both.mk ?_ ?_) | (with_reducible exact True.intro) | (with_reducible refine Flow.same_mk rfl rfl rfl ?_; go_simp; done) | (with_reducible exact Flow.same_un rfl rfl rfl) | (refine Flow.region_still mixed ?hB ?_; (case hB => decide +kernel)))
      go_ret
      exact ⟨rfl, by (repeat' (first | with_reducible exact Fr.refl _ _ | with_reducible apply Fr.alloc | with_reducible apply Fr.drew | with_reducible apply Fr.drewN | (with_reducible refine Fr.setCell ?_ ?_ _)))⟩
    · have hn : r = none := by rw [hr]; unfold thPtr; rw [if_neg (fun h => h1 h.2)]
      subst hn
      clear hr HO
      generalize ids.length = L at *
      go_enter Try.func17, Try.ntmps17
      go_wp2_with (first | fail | still_step | (with_reducible refine wpStill_nil ?_) | (with_reducible refine Flow.Both.mk ?_ ?_) | (with_reducible exact True.intro) | (with_reducible refine Flow.same_mk rfl rfl rfl ?_; go_simp; done) | (with_reducible exact Flow.same_un rfl rfl rfl) | (refine Flow.region_still mixed ?hB ?_; (case hB => decide +kernel)))
      go_ret
      exact ⟨rfl, by (repeat' (first | with_reducible exact Fr.refl _ _ | with_reducible apply Fr.alloc | with_reducible apply Fr.drew | with_reducible apply Fr.drewN | (with_reducible refine Fr.setCell ?_ ?_ _)))⟩
  · have hn : r = none := by rw [hr]; unfold thPtr; rw [if_neg (fun h => h0 h.1)]
    subst hn
    clear hr HO
    generalize ids.length = L at *
    go_enter Try.func17, Try.ntmps17
    go_wp2_with (first | fail | still_step | (with_reducible refine wpStill_nil ?_) | (with_reducible refine Flow.Both.mk ?_ ?_) | (with_reducible exact True.intro) | (with_reducible refine Flow.same_mk rfl rfl rfl ?_; go_simp; done) | (with_reducible exact Flow.same_un rfl rfl rfl) | (refine Flow.region_still mixed ?hB ?_; (case hB => decide +kernel)))
    go_ret
    exact ⟨rfl, by (repeat' (first | with_reducible exact Fr.refl _ _ | with_reducible apply Fr.alloc | with_reducible apply Fr.drew | with_reducible apply Fr.drewN | (with_reducible refine Fr.setCell ?_ ?_ _)))⟩
end Go.Proofs.Ytokmdjpaegaojaa.Seq
