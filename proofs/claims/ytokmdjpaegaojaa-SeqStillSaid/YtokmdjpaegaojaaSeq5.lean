/-
  What an instruction does: plain as a whole, and the five that are events.
-/
import Derived.Test.YtokmdjpaegaojaaSeq4f
namespace Go.Proofs.Ytokmdjpaegaojaa.Seq
open Go.RowKit
attribute [local irreducible] wpStill wpList Calls CallsIn

def evV (e : Ev) : Value := .agg #[.int .i64 e.kind, .int .i64 e.thread, .int .i64 e.n]

theorem plain_is (B ob i : Nat) (R : Nat → Prop) (ids : List (Nat × Nat)) (m : M) (p : Nat × Nat) (t : Th) (ins : Ins) (w : World) (h : RunRep w B R ids ob m) (hp : ids[i]? = some p) (ht : m.ths[i]? = some t) :
    Calls Try.prog 24 #[.pointer (some ⟨B, 0, none⟩), .pointer (some ⟨p.1, 0, none⟩), .agg (insC ins).toArray] w fun e w' => e = .returned (.tuple #[]) ∧
      RunRep w' B R ids ob ⟨m.ths.set i (plain m.mem t ins).2, (plain m.mem t ins).1, m.owner⟩ ∧ Fr R w w' := by
  obtain ⟨k, op, d, a, b, n, to⟩ := ins
  by_cases h0 : k = 0
  · subst h0; exact plain_set B ob i R ids m p t op d a b n to w h hp ht
  by_cases h1 : k = 1
  · subst h1; exact plain_move B ob i R ids m p t op d a b n to w h hp ht
  by_cases h2 : k = 2
  · subst h2; exact plain_eval B ob i R ids m p t op d a b n to w h hp ht
  by_cases h3 : k = 3
  · subst h3
    by_cases hg : t.get a = 0
    · have := plain_pick0 B ob i R ids m p t op d a b n to hg w h hp ht
      have e : plain m.mem t ⟨3, op, d, a, b, n, to⟩ = (m.mem, t.step) := by simp [plain, show t.step.get a = 0 from hg]
      rw [e]; exact this
    · have := plain_pick1 B ob i R ids m p t op d a b n to hg w h hp ht
      have e : plain m.mem t ⟨3, op, d, a, b, n, to⟩ = (m.mem, t.step.set d (t.get b)) := by simp [plain, show t.step.get a ≠ 0 from hg]; rfl
      rw [e]; exact this
  by_cases h4 : k = 4
  · subst h4
    cases hx : word m.mem t ⟨4, op, d, a, b, n, to⟩ with
    | none =>
      have := plain_load0 B ob i R ids m p t op d a b n to hx w h hp ht
      have e : plain m.mem t ⟨4, op, d, a, b, n, to⟩ = (m.mem, t.step.set d 0) := by simp [plain, word_step, hx]
      rw [e]; exact this
    | some x =>
      have := plain_load1 B ob i R ids m p t op d a b n to x hx w h hp ht
      have e : plain m.mem t ⟨4, op, d, a, b, n, to⟩ = (m.mem, t.step.set d (m.mem.getD x 0)) := by simp [plain, word_step, hx]
      rw [e]; exact this
  by_cases h5 : k = 5
  · subst h5
    cases hx : word m.mem t ⟨5, op, d, a, b, n, to⟩ with
    | none =>
      have := plain_store0 B ob i R ids m p t op d a b n to hx w h hp ht
      have e : plain m.mem t ⟨5, op, d, a, b, n, to⟩ = (m.mem, t.step) := by simp [plain, word_step, hx]
      rw [e]; exact this
    | some x =>
      have := plain_store1 B ob i R ids m p t op d a b n to x hx w h hp ht
      have e : plain m.mem t ⟨5, op, d, a, b, n, to⟩ = (m.mem.set x (t.get b), t.step) := by simp [plain, word_step, hx]; rfl
      rw [e]; exact this
  by_cases h6 : k = 6
  · subst h6; exact plain_jump B ob i R ids m p t op d a b n to w h hp ht
  by_cases h7 : k = 7
  · subst h7
    by_cases hg : t.get a = 0
    · have := plain_zero1 B ob i R ids m p t op d a b n to hg w h hp ht
      have e : plain m.mem t ⟨7, op, d, a, b, n, to⟩ = (m.mem, { t.step with at_ := to }) := by simp [plain, show t.step.get a = 0 from hg]
      rw [e]; exact this
    · have := plain_zero0 B ob i R ids m p t op d a b n to hg w h hp ht
      have e : plain m.mem t ⟨7, op, d, a, b, n, to⟩ = (m.mem, t.step) := by simp [plain, show t.step.get a ≠ 0 from hg]
      rw [e]; exact this
  · have := plain_else B ob i R ids m p t op d a b n to k ⟨h0, h1, h2, h3, h4, h5, h6, h7⟩ w h hp ht
    have e : plain m.mem t ⟨k, op, d, a, b, n, to⟩ = (m.mem, t.step) := by simp [plain, h0, h1, h2, h3, h4, h5, h6, h7]
    rw [e]; exact this

/-- It is over. -/
theorem overTh {w : World} {B ob i : Nat} {R : Nat → Prop} {ids : List (Nat × Nat)} {m : M} {p : Nat × Nat} {t : Th} (h : RunRep w B R ids ob m) (hp : ids[i]? = some p) (ht : m.ths[i]? = some t) :
    RunRep (w.setCell ⟨p.1, 3, none⟩ (.bool true)) B R ids ob { m with ths := m.ths.set i { t with over := true } } ∧ Fr (fun k => k = p.1) w (w.setCell ⟨p.1, 3, none⟩ (.bool true)) := by
  have hf : Fr (fun k => k = p.1) w (w.setCell ⟨p.1, 3, none⟩ (.bool true)) := by (repeat' (first | with_reducible exact Fr.refl _ _ | with_reducible apply Fr.alloc | with_reducible apply Fr.drew | with_reducible apply Fr.drewN | (with_reducible refine Fr.setCell ?_ ?_ _))); exact fun _ => rfl
  obtain ⟨ca, cc, l1, l2, l3⟩ := h.ths i p t hp ht
  refine ⟨h.setTh hp ht p.1 (.inl rfl) hf ⟨ca, cc, by simpa using l1.set 3 (.bool true), own_fr1 l2 hf (by rw [ty_blk l1]; decide), map_fr1 l3 hf (.inl (by rw [ty_blk l1]; simp))⟩, hf⟩

theorem Blk.three {w : World} {b : Nat} {T : TypeId} {a0 a1 a2 : Value} (h : Blk w b #[a0, a1, a2] T) (v0 v1 v2 : Value) :
    (w.setCell ⟨b, 0, none⟩ v0).cell? ⟨b, 0, none⟩ = some v0 ∧ ((w.setCell ⟨b, 0, none⟩ v0).setCell ⟨b, 1, none⟩ v1).cell? ⟨b, 1, none⟩ = some v1 ∧
    (((w.setCell ⟨b, 0, none⟩ v0).setCell ⟨b, 1, none⟩ v1).setCell ⟨b, 2, none⟩ v2).cell? ⟨b, 2, none⟩ = some v2 := by
  have h0 := h.set 0 v0
  have h1 := h0.set 1 v1
  have h2 := h1.set 2 v2
  exact ⟨(h0.cell 0).trans rfl, (h1.cell 1).trans rfl, (h2.cell 2).trans rfl⟩

set_option maxHeartbeats 1000000 in
theorem trap_is (B ob i : Nat) (R : Nat → Prop) (ids : List (Nat × Nat)) (m : M) (p : Nat × Nat) (t : Th) (k op d a b n to who : Int) (w : World) (h : RunRep w B R ids ob m) (hp : ids[i]? = some p) (ht : m.ths[i]? = some t) :
    Calls Try.prog 21 #[.pointer (some ⟨B, 0, none⟩), .pointer (some ⟨p.1, 0, none⟩), .int .i64 who, .agg (insC ⟨k, op, d, a, b, n, to⟩).toArray] w fun e w' => e = .returned (.tuple #[evV ⟨3, who, n⟩, .int .i64 0]) ∧
      RunRep w' B R ids ob { m with ths := m.ths.set i { t with over := true } } ∧ Fr R w w' := by
  have hpR := (h.inT p (List.mem_of_getElem? hp))
  obtain ⟨ca, cc, hb, ho, hm⟩ := h.ths i p t hp ht
  have b1 : w.cell? ⟨p.1, 1, none⟩ = some (.int .i64 t.at_) := (hb.cell 1).trans rfl
  have b2 : w.cell? ⟨p.1, 2, none⟩ = some (.map (some p.2)) := (hb.cell 2).trans rfl
  have b3 : w.cell? ⟨p.1, 3, none⟩ = some (.bool t.over) := (hb.cell 3).trans rfl
  have f1 := hb.free 1
  have f3 := hb.free 3
  have hlt := hb.lt
  have hi : i < m.ths.length := (List.getElem?_eq_some_iff.1 ht).1
  obtain ⟨ta, tc, ma, mc, hB, _, _⟩ := h.head
  have c2 : w.cell? ⟨B, 2, none⟩ = some (.map (some ob)) := (hB.cell 2).trans rfl
  have hBlt := hB.lt
  have hrl := h.lt
  clear hb ho hm hB
  have hs := overTh h hp ht
  have HS := hid hs
  clear h hs
  dsimp only [insC] at *
  go_enter Try.func21, Try.ntmps21
  go_wp2_with (first | fail | still_step | (with_reducible refine wpStill_nil ?_) | (with_reducible refine Flow.Both.mk ?_ ?_) | (with_reducible exact True.intro) | (with_reducible refine Flow.same_mk rfl rfl rfl ?_; go_simp; done) | (with_reducible exact Flow.same_un rfl rfl rfl) | (refine Flow.region_still mixed ?hB ?_; (case hB => decide +kernel)))
  exact bodyPost_ret (v := .tuple #[evV ⟨3, who, n⟩, .int .i64 0]) (by simp [results, Try.results21, go_sem, evV]) rfl ⟨rfl, HS.out.1.fr (S := fun k => w.heap.size ≤ k) (by (repeat' (first | with_reducible exact Fr.refl _ _ | with_reducible apply Fr.alloc | with_reducible apply Fr.drew | with_reducible apply Fr.drewN | (with_reducible refine Fr.setCell ?_ ?_ _))) <;> simp) (fun k hk h => by have := hrl k hk; omega), (HS.out.2.mono (S2 := R) (fun k _ e => by rw [e]; exact hpR.1)).trans (S := R) (S2 := fun k => w.heap.size ≤ k) (by (repeat' (first | with_reducible exact Fr.refl _ _ | with_reducible apply Fr.alloc | with_reducible apply Fr.drew | with_reducible apply Fr.drewN | (with_reducible refine Fr.setCell ?_ ?_ _))) <;> simp) (fun k hk h => absurd hk (Nat.not_lt.2 h))⟩

set_option maxHeartbeats 1000000 in
theorem halt_is (B ob i : Nat) (R : Nat → Prop) (ids : List (Nat × Nat)) (m : M) (p : Nat × Nat) (t : Th) (k op d a b n to who : Int) (w : World) (h : RunRep w B R ids ob m) (hp : ids[i]? = some p) (ht : m.ths[i]? = some t) :
    Calls Try.prog 22 #[.pointer (some ⟨B, 0, none⟩), .pointer (some ⟨p.1, 0, none⟩), .int .i64 who, .agg (insC ⟨k, op, d, a, b, n, to⟩).toArray] w fun e w' => e = .returned (.tuple #[evV ⟨4, who, 0⟩, .int .i64 0]) ∧
      RunRep w' B R ids ob { m with ths := m.ths.set i { t with over := true } } ∧ Fr R w w' := by
  have hpR := (h.inT p (List.mem_of_getElem? hp))
  obtain ⟨ca, cc, hb, ho, hm⟩ := h.ths i p t hp ht
  have b1 : w.cell? ⟨p.1, 1, none⟩ = some (.int .i64 t.at_) := (hb.cell 1).trans rfl
  have b2 : w.cell? ⟨p.1, 2, none⟩ = some (.map (some p.2)) := (hb.cell 2).trans rfl
  have b3 : w.cell? ⟨p.1, 3, none⟩ = some (.bool t.over) := (hb.cell 3).trans rfl
  have f1 := hb.free 1
  have f3 := hb.free 3
  have hlt := hb.lt
  have hi : i < m.ths.length := (List.getElem?_eq_some_iff.1 ht).1
  obtain ⟨ta, tc, ma, mc, hB, _, _⟩ := h.head
  have c2 : w.cell? ⟨B, 2, none⟩ = some (.map (some ob)) := (hB.cell 2).trans rfl
  have hBlt := hB.lt
  have hrl := h.lt
  clear hb ho hm hB
  have hs := overTh h hp ht
  have HS := hid hs
  clear h hs
  dsimp only [insC] at *
  go_enter Try.func22, Try.ntmps22
  go_wp2_with (first | fail | still_step | (with_reducible refine wpStill_nil ?_) | (with_reducible refine Flow.Both.mk ?_ ?_) | (with_reducible exact True.intro) | (with_reducible refine Flow.same_mk rfl rfl rfl ?_; go_simp; done) | (with_reducible exact Flow.same_un rfl rfl rfl) | (refine Flow.region_still mixed ?hB ?_; (case hB => decide +kernel)))
  exact bodyPost_ret (v := .tuple #[evV ⟨4, who, 0⟩, .int .i64 0]) (by simp [results, Try.results22, go_sem, evV]) rfl ⟨rfl, HS.out.1.fr (S := fun k => w.heap.size ≤ k) (by (repeat' (first | with_reducible exact Fr.refl _ _ | with_reducible apply Fr.alloc | with_reducible apply Fr.drew | with_reducible apply Fr.drewN | (with_reducible refine Fr.setCell ?_ ?_ _))) <;> simp) (fun k hk h => by have := hrl k hk; omega), (HS.out.2.mono (S2 := R) (fun k _ e => by rw [e]; exact hpR.1)).trans (S := R) (S2 := fun k => w.heap.size ≤ k) (by (repeat' (first | with_reducible exact Fr.refl _ _ | with_reducible apply Fr.alloc | with_reducible apply Fr.drew | with_reducible apply Fr.drewN | (with_reducible refine Fr.setCell ?_ ?_ _))) <;> simp) (fun k hk h => absurd hk (Nat.not_lt.2 h))⟩

set_option maxHeartbeats 1000000 in
theorem out_is (B ob i : Nat) (R : Nat → Prop) (ids : List (Nat × Nat)) (m : M) (p : Nat × Nat) (t : Th) (k op d a b n to who : Int) (w : World) (h : RunRep w B R ids ob m) (hp : ids[i]? = some p) (ht : m.ths[i]? = some t) :
    Calls Try.prog 18 #[.pointer (some ⟨B, 0, none⟩), .pointer (some ⟨p.1, 0, none⟩), .int .i64 who, .agg (insC ⟨k, op, d, a, b, n, to⟩).toArray] w fun e w' => e = .returned (.tuple #[evV ⟨0, who, t.get a⟩, .int .i64 0]) ∧
      RunRep w' B R ids ob { m with ths := m.ths.set i t.step } ∧ Fr R w w' := by
  have hpR := (h.inT p (List.mem_of_getElem? hp))
  obtain ⟨ca, cc, hb, ho, hm⟩ := h.ths i p t hp ht
  have b1 : w.cell? ⟨p.1, 1, none⟩ = some (.int .i64 t.at_) := (hb.cell 1).trans rfl
  have b2 : w.cell? ⟨p.1, 2, none⟩ = some (.map (some p.2)) := (hb.cell 2).trans rfl
  have b3 : w.cell? ⟨p.1, 3, none⟩ = some (.bool t.over) := (hb.cell 3).trans rfl
  have f1 := hb.free 1
  have f3 := hb.free 3
  have hlt := hb.lt
  have hi : i < m.ths.length := (List.getElem?_eq_some_iff.1 ht).1
  obtain ⟨ta, tc, ma, mc, hB, _, _⟩ := h.head
  have c2 : w.cell? ⟨B, 2, none⟩ = some (.map (some ob)) := (hB.cell 2).trans rfl
  have hBlt := hB.lt
  have hrl := h.lt
  clear hb ho hm hB
  have hs := stepTh h hp ht (wrap64 (t.at_ + 1))
  have HS := hid hs
  have hl := run_look under_regs under_int (w := (((w.setCell ⟨p.1, 1, none⟩ (.int .i64 (wrap64 (t.at_ + 1)))).alloc (.cells (insC ⟨k, op, d, a, b, n, to⟩).toArray 42)).alloc (.cells #[.int .i64 0, .int .i64 0, .int .i64 0] 32)).drew)
    (((h.ths i p t hp ht).choose_spec.choose_spec.2.2).fr (S := fun k => k = p.1) (by (repeat' (first | with_reducible exact Fr.refl _ _ | with_reducible apply Fr.alloc | with_reducible apply Fr.drew | with_reducible apply Fr.drewN | (with_reducible refine Fr.setCell ?_ ?_ _))); exact fun _ => rfl) (fun e => by obtain ⟨ca, cc, g1, g2, g3⟩ := h.ths i p t hp ht; have := ty_blk g1; rw [← e, ty_map g3] at this; cases this)) a (run_zero zero_i64 _) false
  have hz : ((regC t.regs) a).getD (.int .i64 0) = .int .i64 (t.get a) := by unfold regC Th.get; cases t.regs a <;> rfl
  simp only [hz, Bool.false_eq_true, if_false] at hl
  clear hz
  clear h hs
  dsimp only [insC] at *
  go_enter Try.func18, Try.ntmps18
  go_wp2_with (first | fail | still_step | (with_reducible refine wpStill_nil ?_) | (with_reducible refine Flow.Both.mk ?_ ?_) | (with_reducible exact True.intro) | (with_reducible refine Flow.same_mk rfl rfl rfl ?_; go_simp; done) | (with_reducible exact Flow.same_un rfl rfl rfl) | (with_reducible refine Flow.region_flow (id := 2) [0, 0, 2, 6, 14, 0, 32, 126, 255, 511, 1023] 768 252 [(0, none), (1, none), (2, none), (3, none), (4, none), (5, none), (6, none), (7, none), (8, some []), (9, some []), (10, none)] mixed ?hB ?_; (case hB => decide +kernel); simp only [Flow.textOf, List.map_cons, List.map_nil, Option.map_none, Option.map_some, Array.getD_eq_getD_getElem?, List.getElem?_toArray, List.getElem?_cons_zero, List.getElem?_cons_succ, Option.getD_some, Flow.wpFl, Flow.SameAll]) | (refine Flow.region_still mixed ?hB ?_; (case hB => decide +kernel)))
  exact bodyPost_ret (v := .tuple #[evV ⟨0, who, t.get a⟩, .int .i64 0]) (by simp [results, Try.results18, go_sem, evV]) rfl ⟨rfl, HS.out.1.fr (S := fun k => w.heap.size ≤ k) (by (repeat' (first | with_reducible exact Fr.refl _ _ | with_reducible apply Fr.alloc | with_reducible apply Fr.drew | with_reducible apply Fr.drewN | (with_reducible refine Fr.setCell ?_ ?_ _))) <;> simp) (fun k hk h => by have := hrl k hk; omega), (HS.out.2.mono (S2 := R) (fun k _ e => by rw [e]; exact hpR.1)).trans (S := R) (S2 := fun k => w.heap.size ≤ k) (by (repeat' (first | with_reducible exact Fr.refl _ _ | with_reducible apply Fr.alloc | with_reducible apply Fr.drew | with_reducible apply Fr.drewN | (with_reducible refine Fr.setCell ?_ ?_ _))) <;> simp) (fun k hk h => absurd hk (Nat.not_lt.2 h))⟩

set_option maxHeartbeats 1000000 in
theorem take0_is (B ob i : Nat) (R : Nat → Prop) (ids : List (Nat × Nat)) (m : M) (p : Nat × Nat) (t : Th) (k op d a b n to who : Int) (w : World) (h : RunRep w B R ids ob m) (hp : ids[i]? = some p) (ht : m.ths[i]? = some t) (x : Int) (hx : m.owner n = some x) :
    Calls Try.prog 19 #[.pointer (some ⟨B, 0, none⟩), .pointer (some ⟨p.1, 0, none⟩), .int .i64 who, .agg (insC ⟨k, op, d, a, b, n, to⟩).toArray] w fun e w' => e = .returned (.tuple #[evV none_, .int .i64 1]) ∧
      RunRep w' B R ids ob m ∧ Fr R w w' := by
  have hpR := (h.inT p (List.mem_of_getElem? hp))
  obtain ⟨ca, cc, hb, ho, hm⟩ := h.ths i p t hp ht
  have b1 : w.cell? ⟨p.1, 1, none⟩ = some (.int .i64 t.at_) := (hb.cell 1).trans rfl
  have b2 : w.cell? ⟨p.1, 2, none⟩ = some (.map (some p.2)) := (hb.cell 2).trans rfl
  have b3 : w.cell? ⟨p.1, 3, none⟩ = some (.bool t.over) := (hb.cell 3).trans rfl
  have f1 := hb.free 1
  have f3 := hb.free 3
  have hlt := hb.lt
  have hi : i < m.ths.length := (List.getElem?_eq_some_iff.1 ht).1
  obtain ⟨ta, tc, ma, mc, hB, _, _⟩ := h.head
  have c2 : w.cell? ⟨B, 2, none⟩ = some (.map (some ob)) := (hB.cell 2).trans rfl
  have hBlt := hB.lt
  have hrl := h.lt
  clear hb ho hm hB
  have hl := run_look under_own under_i64 (w := ((w.alloc (.cells (insC ⟨k, op, d, a, b, n, to⟩).toArray 42)).alloc (.cells #[.int .i64 0, .int .i64 0, .int .i64 0] 32)).drew)
    (h.own.fr (S := fun _ => False) (by (repeat' (first | with_reducible exact Fr.refl _ _ | with_reducible apply Fr.alloc | with_reducible apply Fr.drew | with_reducible apply Fr.drewN | (with_reducible refine Fr.setCell ?_ ?_ _)))) (fun h => h)) n (run_zero zero_int _) true
  have hz : regC m.owner n = some (.int .i64 x) := by unfold regC; rw [hx]; rfl
  rw [hz] at hl
  simp only [Option.getD_some, Option.isSome_some, if_true] at hl
  have HR := hid h
  clear h hz
  dsimp only [insC] at *
  go_enter Try.func19, Try.ntmps19
  go_wp2_with (first | fail | still_step | (with_reducible refine wpStill_nil ?_) | (with_reducible refine Flow.Both.mk ?_ ?_) | (with_reducible exact True.intro) | (with_reducible refine Flow.same_mk rfl rfl rfl ?_; go_simp; done) | (with_reducible exact Flow.same_un rfl rfl rfl) | (with_reducible refine Flow.region_flow (id := 4) [0, 1, 3, 7, 0, 16, 0, 127] 128 62 [(0, none), (1, none), (2, none), (3, none), (4, none), (5, none), (6, none), (7, some [])] mixed ?hB ?_; (case hB => decide +kernel); simp only [Flow.textOf, List.map_cons, List.map_nil, Option.map_none, Option.map_some, Array.getD_eq_getD_getElem?, List.getElem?_toArray, List.getElem?_cons_zero, List.getElem?_cons_succ, Option.getD_some, Flow.wpFl, Flow.SameAll]) | (refine Flow.region_still mixed ?hB ?_; (case hB => decide +kernel)))
  exact bodyPost_ret (v := .tuple #[evV none_, .int .i64 1]) (by simp [results, Try.results19, go_sem, evV, none_]) rfl ⟨rfl, HR.out.fr (S := fun k => w.heap.size ≤ k) (by (repeat' (first | with_reducible exact Fr.refl _ _ | with_reducible apply Fr.alloc | with_reducible apply Fr.drew | with_reducible apply Fr.drewN | (with_reducible refine Fr.setCell ?_ ?_ _))) <;> simp) (fun k hk h => by have := hrl k hk; omega), Fr.mono (S := fun k => w.heap.size ≤ k) (by (repeat' (first | with_reducible exact Fr.refl _ _ | with_reducible apply Fr.alloc | with_reducible apply Fr.drew | with_reducible apply Fr.drewN | (with_reducible refine Fr.setCell ?_ ?_ _))) <;> simp) (fun k hk h => absurd hk (Nat.not_lt.2 h))⟩

set_option maxHeartbeats 1000000 in
theorem take1_is (B ob i : Nat) (R : Nat → Prop) (ids : List (Nat × Nat)) (m : M) (p : Nat × Nat) (t : Th) (k op d a b n to who : Int) (w : World) (h : RunRep w B R ids ob m) (hp : ids[i]? = some p) (ht : m.ths[i]? = some t) (hx : m.owner n = none) :
    Calls Try.prog 19 #[.pointer (some ⟨B, 0, none⟩), .pointer (some ⟨p.1, 0, none⟩), .int .i64 who, .agg (insC ⟨k, op, d, a, b, n, to⟩).toArray] w fun e w' => e = .returned (.tuple #[evV ⟨1, who, n⟩, .int .i64 0]) ∧
      RunRep w' B R ids ob ⟨m.ths.set i t.step, m.mem, updI m.owner n (some who)⟩ ∧ Fr R w w' := by
  have hpR := (h.inT p (List.mem_of_getElem? hp))
  obtain ⟨ca, cc, hb, ho, hm⟩ := h.ths i p t hp ht
  have b1 : w.cell? ⟨p.1, 1, none⟩ = some (.int .i64 t.at_) := (hb.cell 1).trans rfl
  have b2 : w.cell? ⟨p.1, 2, none⟩ = some (.map (some p.2)) := (hb.cell 2).trans rfl
  have b3 : w.cell? ⟨p.1, 3, none⟩ = some (.bool t.over) := (hb.cell 3).trans rfl
  have f1 := hb.free 1
  have f3 := hb.free 3
  have hlt := hb.lt
  have hi : i < m.ths.length := (List.getElem?_eq_some_iff.1 ht).1
  obtain ⟨ta, tc, ma, mc, hB, _, _⟩ := h.head
  have c2 : w.cell? ⟨B, 2, none⟩ = some (.map (some ob)) := (hB.cell 2).trans rfl
  have hBlt := hB.lt
  have hrl := h.lt
  clear hb ho hm hB
  have hl := run_look under_own under_i64 (w := ((w.alloc (.cells (insC ⟨k, op, d, a, b, n, to⟩).toArray 42)).alloc (.cells #[.int .i64 0, .int .i64 0, .int .i64 0] 32)).drew)
    (h.own.fr (S := fun _ => False) (by (repeat' (first | with_reducible exact Fr.refl _ _ | with_reducible apply Fr.alloc | with_reducible apply Fr.drew | with_reducible apply Fr.drewN | (with_reducible refine Fr.setCell ?_ ?_ _)))) (fun h => h)) n (run_zero zero_int _) true
  have hz : regC m.owner n = none := by unfold regC; rw [hx]; rfl
  rw [hz] at hl
  simp only [Option.getD_none, Option.isSome_none, if_true] at hl
  obtain ⟨wq, hwq, hfq⟩ : ∃ wq, wq = ((w.alloc (.cells (insC ⟨k, op, d, a, b, n, to⟩).toArray 42)).alloc (.cells #[.int .i64 0, .int .i64 0, .int .i64 0] 32)).drew.drew ∧ Fr (fun _ => False) w wq := ⟨_, rfl, by (repeat' (first | with_reducible exact Fr.refl _ _ | with_reducible apply Fr.alloc | with_reducible apply Fr.drew | with_reducible apply Fr.drewN | (with_reducible refine Fr.setCell ?_ ?_ _)))⟩
  have hq1 : Blk wq w.heap.size (insC ⟨k, op, d, a, b, n, to⟩).toArray 42 := by rw [hwq]; exact ((Blk.new w _ _).alloc _).drew.drew
  have hq2 : Blk wq (w.heap.size + 1) #[.int .i64 0, .int .i64 0, .int .i64 0] 32 := by rw [hwq]; have := ((Blk.new (w.alloc (.cells (insC ⟨k, op, d, a, b, n, to⟩).toArray 42)) #[.int .i64 0, .int .i64 0, .int .i64 0] 32).drew).drew; simpa using this
  have hRq := h.fr hfq (fun _ _ h => h)
  obtain ⟨w1, hr, hm1, hf1⟩ := run_store under_own under_i64 hRq.own n (.int .i64 who)
  rw [show upd (regC m.owner) n (some (.int .i64 who)) = regC (updI m.owner n (some who)) from (regC_upd m.owner n (some who)).symm] at hm1
  have hR1 := hRq.setOwn hf1 hm1
  have hs := stepTh hR1 hp ht (wrap64 (t.at_ + 1))
  obtain ⟨ca2, cc2, l1, _, _⟩ := hR1.ths i p t hp ht
  have e1 : w1.cell? ⟨p.1, 1, none⟩ = some (.int .i64 t.at_) := (l1.cell 1).trans rfl
  have g1 := l1.free 1
  have lt1 := l1.lt
  have hob : ob < w.heap.size := h.own.lt
  have q1 := hq1.fr hf1 (by intro e; omega)
  have q2 := hq2.fr hf1 (by intro e; omega)
  have q5 : w1.cell? ⟨w.heap.size, 5, none⟩ = some (.int .i64 n) := (q1.cell 5).trans rfl
  have Q2 := hid (q2.set_ne (a := ⟨p.1, 1, none⟩) (by simp; omega) (.int .i64 (wrap64 (t.at_ + 1))))
  have q6 := q2.cell 0
  have q7 := q2.free 0
  have q8 := q2.cell 1
  have q9 := q2.free 1
  have q10 := q2.cell 2
  have q11 := q2.free 2
  have lq2 := q2.lt
  have hs1 := hs.1
  have HF1 : Hid (Fr R w w1) := hid ((hfq.mono (S2 := R) (fun k _ h => h.elim)).trans (S := R) (hf1.mono (S2 := R) (fun k _ e => by rw [e]; exact h.inO)) (fun _ _ h => h))
  have HF0 := hid (hs.2.mono (S2 := R) (fun k _ e => by rw [e]; exact hpR.1))
  have HS := hid hs1
  have hrw1 : w.heap.size ≤ w1.heap.size := Nat.le_trans hfq.size hf1.size
  clear h hz hs hs1 l1 q1 q2 hq1 hq2 hm1 hf1 hR1 hRq hfq
  dsimp only [insC] at *
  go_enter Try.func19, Try.ntmps19
  go_wp2_with (first | fail | still_step | (with_reducible refine wpStill_nil ?_) | (with_reducible refine Flow.Both.mk ?_ ?_) | (with_reducible exact True.intro) | (with_reducible refine Flow.same_mk rfl rfl rfl ?_; go_simp; done) | (with_reducible exact Flow.same_un rfl rfl rfl) | (with_reducible refine Flow.region_flow (id := 4) [0, 1, 3, 7, 0, 16, 0, 127] 128 62 [(0, none), (1, none), (2, none), (3, none), (4, none), (5, none), (6, none), (7, some [])] mixed ?hB ?_; (case hB => decide +kernel); simp only [Flow.textOf, List.map_cons, List.map_nil, Option.map_none, Option.map_some, Array.getD_eq_getD_getElem?, List.getElem?_toArray, List.getElem?_cons_zero, List.getElem?_cons_succ, Option.getD_some, Flow.wpFl, Flow.SameAll]) | (refine Flow.region_still mixed ?hB ?_; (case hB => decide +kernel)))
  rw [← hwq, hr]
  simp only [Result.andThen, Oper.upon]
  go_wp2_with (first | fail | still_step | (with_reducible refine wpStill_nil ?_) | (with_reducible refine Flow.Both.mk ?_ ?_) | (with_reducible exact True.intro) | (with_reducible refine Flow.same_mk rfl rfl rfl ?_; go_simp; done) | (with_reducible exact Flow.same_un rfl rfl rfl) | (with_reducible refine Flow.region_flow (id := 4) [0, 1, 3, 7, 0, 16, 0, 127] 128 62 [(0, none), (1, none), (2, none), (3, none), (4, none), (5, none), (6, none), (7, some [])] mixed ?hB ?_; (case hB => decide +kernel); simp only [Flow.textOf, List.map_cons, List.map_nil, Option.map_none, Option.map_some, Array.getD_eq_getD_getElem?, List.getElem?_toArray, List.getElem?_cons_zero, List.getElem?_cons_succ, Option.getD_some, Flow.wpFl, Flow.SameAll]) | (refine Flow.region_still mixed ?hB ?_; (case hB => decide +kernel)))
  obtain ⟨r0, r1, r2⟩ := Blk.three Q2.out (.int .i64 1) (.int .i64 who) (.int .i64 n)
  exact bodyPost_ret (v := .tuple #[evV ⟨1, who, n⟩, .int .i64 0]) (by simp [results, Try.results19, go_sem, evV, r0, r1, r2]) rfl ⟨rfl, HS.out.fr (S := fun k => k = w.heap.size + 1) (by (repeat' (first | with_reducible exact Fr.refl _ _ | with_reducible apply Fr.alloc | with_reducible apply Fr.drew | with_reducible apply Fr.drewN | (with_reducible refine Fr.setCell ?_ ?_ _))) <;> simp) (fun k hk h => by have := hrl k hk; omega), (HF1.out.trans (S := R) HF0.out (fun k _ h => h)).trans (S := R) (S2 := fun k => k = w.heap.size + 1) (by (repeat' (first | with_reducible exact Fr.refl _ _ | with_reducible apply Fr.alloc | with_reducible apply Fr.drew | with_reducible apply Fr.drewN | (with_reducible refine Fr.setCell ?_ ?_ _))) <;> simp) (fun k hk h => absurd hk (by omega))⟩

set_option maxHeartbeats 1000000 in
theorem give_is (B ob i : Nat) (R : Nat → Prop) (ids : List (Nat × Nat)) (m : M) (p : Nat × Nat) (t : Th) (k op d a b n to who : Int) (w : World) (h : RunRep w B R ids ob m) (hp : ids[i]? = some p) (ht : m.ths[i]? = some t) :
    Calls Try.prog 20 #[.pointer (some ⟨B, 0, none⟩), .pointer (some ⟨p.1, 0, none⟩), .int .i64 who, .agg (insC ⟨k, op, d, a, b, n, to⟩).toArray] w fun e w' => e = .returned (.tuple #[evV ⟨2, who, n⟩, .int .i64 0]) ∧
      RunRep w' B R ids ob ⟨m.ths.set i t.step, m.mem, updI m.owner n none⟩ ∧ Fr R w w' := by
  have hpR := (h.inT p (List.mem_of_getElem? hp))
  obtain ⟨ca, cc, hb, ho, hm⟩ := h.ths i p t hp ht
  have b1 : w.cell? ⟨p.1, 1, none⟩ = some (.int .i64 t.at_) := (hb.cell 1).trans rfl
  have b2 : w.cell? ⟨p.1, 2, none⟩ = some (.map (some p.2)) := (hb.cell 2).trans rfl
  have b3 : w.cell? ⟨p.1, 3, none⟩ = some (.bool t.over) := (hb.cell 3).trans rfl
  have f1 := hb.free 1
  have f3 := hb.free 3
  have hlt := hb.lt
  have hi : i < m.ths.length := (List.getElem?_eq_some_iff.1 ht).1
  obtain ⟨ta, tc, ma, mc, hB, _, _⟩ := h.head
  have c2 : w.cell? ⟨B, 2, none⟩ = some (.map (some ob)) := (hB.cell 2).trans rfl
  have hBlt := hB.lt
  have hrl := h.lt
  clear hb ho hm hB
  obtain ⟨wq, hwq, hfq⟩ : ∃ wq, wq = ((w.alloc (.cells (insC ⟨k, op, d, a, b, n, to⟩).toArray 42)).alloc (.cells #[.int .i64 0, .int .i64 0, .int .i64 0] 32)).drew ∧ Fr (fun _ => False) w wq := ⟨_, rfl, by (repeat' (first | with_reducible exact Fr.refl _ _ | with_reducible apply Fr.alloc | with_reducible apply Fr.drew | with_reducible apply Fr.drewN | (with_reducible refine Fr.setCell ?_ ?_ _)))⟩
  have hq1 : Blk wq w.heap.size (insC ⟨k, op, d, a, b, n, to⟩).toArray 42 := by rw [hwq]; exact ((Blk.new w _ _).alloc _).drew
  have hq2 : Blk wq (w.heap.size + 1) #[.int .i64 0, .int .i64 0, .int .i64 0] 32 := by rw [hwq]; have := (Blk.new (w.alloc (.cells (insC ⟨k, op, d, a, b, n, to⟩).toArray 42)) #[.int .i64 0, .int .i64 0, .int .i64 0] 32).drew; simpa using this
  have hRq := h.fr hfq (fun _ _ h => h)
  obtain ⟨w1, hr, hm1, hf1⟩ := run_drop (ty := 0) under_own under_i64 hRq.own n #[51, 2] rfl
  rw [show upd (regC m.owner) n none = regC (updI m.owner n none) from (regC_upd m.owner n none).symm] at hm1
  have hR1 := hRq.setOwn hf1 hm1
  have hs := stepTh hR1 hp ht (wrap64 (t.at_ + 1))
  obtain ⟨ca2, cc2, l1, _, _⟩ := hR1.ths i p t hp ht
  have e1 : w1.cell? ⟨p.1, 1, none⟩ = some (.int .i64 t.at_) := (l1.cell 1).trans rfl
  have g1 := l1.free 1
  have lt1 := l1.lt
  have hob : ob < w.heap.size := h.own.lt
  have q1 := hq1.fr hf1 (by intro e; omega)
  have q2 := hq2.fr hf1 (by intro e; omega)
  have q5 : w1.cell? ⟨w.heap.size, 5, none⟩ = some (.int .i64 n) := (q1.cell 5).trans rfl
  have Q2 := hid (q2.set_ne (a := ⟨p.1, 1, none⟩) (by simp; omega) (.int .i64 (wrap64 (t.at_ + 1))))
  have q6 := q2.cell 0
  have q7 := q2.free 0
  have q8 := q2.cell 1
  have q9 := q2.free 1
  have q10 := q2.cell 2
  have q11 := q2.free 2
  have lq2 := q2.lt
  have hs1 := hs.1
  have HF1 : Hid (Fr R w w1) := hid ((hfq.mono (S2 := R) (fun k _ h => h.elim)).trans (S := R) (hf1.mono (S2 := R) (fun k _ e => by rw [e]; exact h.inO)) (fun _ _ h => h))
  have HF0 := hid (hs.2.mono (S2 := R) (fun k _ e => by rw [e]; exact hpR.1))
  have HS := hid hs1
  have hrw1 : w.heap.size ≤ w1.heap.size := Nat.le_trans hfq.size hf1.size
  clear h hs hs1 l1 q1 q2 hq1 hq2 hm1 hf1 hR1 hRq hfq
  dsimp only [insC] at *
  go_enter Try.func20, Try.ntmps20
  go_wp2_with (first | fail | still_step | (with_reducible refine wpStill_nil ?_) | (with_reducible refine Flow.Both.mk ?_ ?_) | (with_reducible exact True.intro) | (with_reducible refine Flow.same_mk rfl rfl rfl ?_; go_simp; done) | (with_reducible exact Flow.same_un rfl rfl rfl) | (with_reducible refine Flow.region_flow (id := 1) [0, 1, 3, 7, 0, 16, 63] 64 62 [(0, none), (1, none), (2, none), (3, none), (4, none), (5, none), (6, some [])] mixed ?hB ?_; (case hB => decide +kernel); simp only [Flow.textOf, List.map_cons, List.map_nil, Option.map_none, Option.map_some, Array.getD_eq_getD_getElem?, List.getElem?_toArray, List.getElem?_cons_zero, List.getElem?_cons_succ, Option.getD_some, Flow.wpFl, Flow.SameAll]) | (refine Flow.region_still mixed ?hB ?_; (case hB => decide +kernel)))
  rw [← hwq, hr]
  simp only [Result.andThen, Oper.upon]
  go_wp2_with (first | fail | still_step | (with_reducible refine wpStill_nil ?_) | (with_reducible refine Flow.Both.mk ?_ ?_) | (with_reducible exact True.intro) | (with_reducible refine Flow.same_mk rfl rfl rfl ?_; go_simp; done) | (with_reducible exact Flow.same_un rfl rfl rfl) | (with_reducible refine Flow.region_flow (id := 1) [0, 1, 3, 7, 0, 16, 63] 64 62 [(0, none), (1, none), (2, none), (3, none), (4, none), (5, none), (6, some [])] mixed ?hB ?_; (case hB => decide +kernel); simp only [Flow.textOf, List.map_cons, List.map_nil, Option.map_none, Option.map_some, Array.getD_eq_getD_getElem?, List.getElem?_toArray, List.getElem?_cons_zero, List.getElem?_cons_succ, Option.getD_some, Flow.wpFl, Flow.SameAll]) | (refine Flow.region_still mixed ?hB ?_; (case hB => decide +kernel)))
  obtain ⟨r0, r1, r2⟩ := Blk.three Q2.out (.int .i64 2) (.int .i64 who) (.int .i64 n)
  exact bodyPost_ret (v := .tuple #[evV ⟨2, who, n⟩, .int .i64 0]) (by simp [results, Try.results20, go_sem, evV, r0, r1, r2]) rfl ⟨rfl, HS.out.fr (S := fun k => k = w.heap.size + 1) (by (repeat' (first | with_reducible exact Fr.refl _ _ | with_reducible apply Fr.alloc | with_reducible apply Fr.drew | with_reducible apply Fr.drewN | (with_reducible refine Fr.setCell ?_ ?_ _))) <;> simp) (fun k hk h => by have := hrl k hk; omega), (HF1.out.trans (S := R) HF0.out (fun k _ h => h)).trans (S := R) (S2 := fun k => k = w.heap.size + 1) (by (repeat' (first | with_reducible exact Fr.refl _ _ | with_reducible apply Fr.alloc | with_reducible apply Fr.drew | with_reducible apply Fr.drewN | (with_reducible refine Fr.setCell ?_ ?_ _))) <;> simp) (fun k hk h => absurd hk (by omega))⟩
end Go.Proofs.Ytokmdjpaegaojaa.Seq
