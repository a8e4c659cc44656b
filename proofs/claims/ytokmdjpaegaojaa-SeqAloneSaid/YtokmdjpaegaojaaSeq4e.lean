/-
  What an instruction does that is no event.
-/
import Derived.Test.YtokmdjpaegaojaaSeq4d
namespace Go.Proofs.Ytokmdjpaegaojaa.Seq
open Go.RowKit
attribute [local irreducible] wpStill wpList Calls CallsIn

theorem ownPtr {w : World} {E : TypeId} {R : Nat → Prop} {ao : Option Addr} {n cap : Nat} {cs : List Value} (h : OwnAt w E 1 R ao n cap cs) : n = 0 ∨ ∃ r off, ao = some ⟨r, off, none⟩ := by
  obtain ⟨g1, g2, g3, g4⟩ := h
  rcases g4 with g | ⟨r2, o2, C, e2, _⟩
  · exact .inl (by omega)
  · exact .inr ⟨r2, o2, e2⟩

theorem word_step (mem : List Int) (t : Th) (i : Ins) : word mem t.step i = word mem t i := rfl

theorem word_lt {mem : List Int} {t : Th} {i : Ins} {x : Nat} (h : word mem t i = some x) : x < mem.length := by
  unfold word at h
  dsimp only at h
  generalize (if 0 ≤ i.a then wrap64 (i.n + t.get i.a) else i.n) = y at h
  by_cases hy : y < 0 ∨ (mem.length : Int) ≤ y
  · rw [if_pos hy] at h; cases h
  · rw [if_neg hy] at h
    have := Option.some.inj h; omega

set_option maxHeartbeats 2000000 in
theorem plain_zero1 (B ob i : Nat) (R : Nat → Prop) (ids : List (Nat × Nat)) (m : M) (p : Nat × Nat) (t : Th) (op d a b n to : Int) (hg : t.get a = 0) (w : World) (h : RunRep w B R ids ob m) (hp : ids[i]? = some p) (ht : m.ths[i]? = some t) :
    Calls Try.prog 24 #[.pointer (some ⟨B, 0, none⟩), .pointer (some ⟨p.1, 0, none⟩), .agg (insC ⟨7, op, d, a, b, n, to⟩).toArray] w fun e w' => e = .returned (.tuple #[]) ∧ RunRep w' B R ids ob { m with ths := m.ths.set i { t.step with at_ := to } } ∧ Fr R w w' := by
  have hpR := (h.inT p (List.mem_of_getElem? hp))
  obtain ⟨ca, cc, hb, ho, hm⟩ := h.ths i p t hp ht
  have b1 : w.cell? ⟨p.1, 1, none⟩ = some (.int .i64 t.at_) := (hb.cell 1).trans rfl
  have b2 : w.cell? ⟨p.1, 2, none⟩ = some (.map (some p.2)) := (hb.cell 2).trans rfl
  have f1 := hb.free 1
  have hlt := hb.lt
  have hs := stepTh h hp ht (wrap64 (t.at_ + 1))
  have hi : i < m.ths.length := (List.getElem?_eq_some_iff.1 ht).1
  have ht2 : (m.ths.set i { t with at_ := wrap64 (t.at_ + 1) })[i]? = some { t with at_ := wrap64 (t.at_ + 1) } := by simp [hi]
  clear hb ho hm
  obtain ⟨wb, hwb, hfb⟩ : ∃ wb, wb = ((w.setCell ⟨p.1, 1, none⟩ (.int .i64 (wrap64 (t.at_ + 1)))).alloc (.cells (insC ⟨7, op, d, a, b, n, to⟩).toArray 42)).drew ∧ Fr (fun _ => False) (w.setCell ⟨p.1, 1, none⟩ (.int .i64 (wrap64 (t.at_ + 1)))) wb := ⟨_, rfl, by (repeat' (first | with_reducible exact Fr.refl _ _ | with_reducible apply Fr.alloc | with_reducible apply Fr.drew | with_reducible apply Fr.drewN | (with_reducible refine Fr.setCell ?_ ?_ _)))⟩
  have h3 := hs.1.fr hfb (fun _ _ h => h)
  have hF := (hs.2.mono (S2 := R) (fun k _ e => by rw [e]; exact hpR.1)).trans hfb (fun k _ h => h.elim)
  obtain ⟨ca2, cc2, k1, k2, k3⟩ := h3.ths i p _ hp ht2
  have H3 := hid h3
  have HF := hid hF
  have K1 := hid k1
  have K3 := hid k3
  clear h3 hF k1 k2 k3 hfb
  have hl := run_look under_regs under_int K3.out a (run_zero zero_i64 wb) false
  have hz : ((regC t.regs) a).getD (.int .i64 0) = .int .i64 (t.get a) := by unfold regC Th.get; cases t.regs a <;> rfl
  simp only [hz, Bool.false_eq_true, if_false] at hl
  clear hz
  have hE : ({ m with ths := (m.ths.set i { t with at_ := wrap64 (t.at_ + 1) }).set i { t with at_ := to } } : M) = { m with ths := m.ths.set i { t.step with at_ := to } } := by rw [List.set_set]; rfl
  have hs2 := stepTh hs.1 hp ht2 to
  dsimp only at hs2
  rw [hE] at hs2
  have HS2 := hid hs2
  have HS := hid hs
  clear h hs hs2 K1 K3 H3 HF
  dsimp only [insC] at *
  rw [hwb, hg] at hl
  go_enter Try.func24, Try.ntmps24
  go_wp2_with (first | fail | still_step | (with_reducible refine wpStill_nil ?_) | (with_reducible refine Flow.Both.mk ?_ ?_) | (with_reducible exact True.intro) | (with_reducible refine Flow.same_mk rfl rfl rfl ?_; go_simp; done) | (with_reducible exact Flow.same_un rfl rfl rfl) | (with_reducible refine Flow.region_flow (id := 6) [0, 0, 2, 0, 8, 24, 56, 0, 128, 504, 1023] 1024 1014 [(0, none), (1, none), (2, none), (3, none), (4, none), (5, none), (6, none), (7, none), (8, none), (9, none), (10, some [])] mixed ?hB ?_; (case hB => decide +kernel); simp only [Flow.textOf, List.map_cons, List.map_nil, Option.map_none, Option.map_some, Array.getD_eq_getD_getElem?, List.getElem?_toArray, List.getElem?_cons_zero, List.getElem?_cons_succ, Option.getD_some, Flow.wpFl, Flow.SameAll]) | (with_reducible refine Flow.region_flow (id := 8) [0, 0, 2, 0, 8, 0, 32, 96, 224, 0, 512, 2016, 0, 4096, 12288, 28672, 0, 65536, 258048, 524280, 1048575] 1572864 520158 [(0, none), (1, none), (2, none), (3, none), (4, none), (5, none), (6, none), (7, none), (8, none), (9, none), (10, none), (11, none), (12, none), (13, none), (14, none), (15, none), (16, none), (17, none), (18, none), (19, some [1, 2]), (20, some [])] mixed ?hB ?_; (case hB => decide +kernel); simp only [Flow.textOf, List.map_cons, List.map_nil, Option.map_none, Option.map_some, Array.getD_eq_getD_getElem?, List.getElem?_toArray, List.getElem?_cons_zero, List.getElem?_cons_succ, Option.getD_some, Flow.wpFl, Flow.SameAll]) | (with_reducible refine Flow.region_flow (id := 11) [0, 0, 2, 0, 8, 24, 56, 0, 128, 504, 1023] 1024 1014 [(0, none), (1, none), (2, none), (3, none), (4, none), (5, none), (6, none), (7, none), (8, none), (9, none), (10, some [])] mixed ?hB ?_; (case hB => decide +kernel); simp only [Flow.textOf, List.map_cons, List.map_nil, Option.map_none, Option.map_some, Array.getD_eq_getD_getElem?, List.getElem?_toArray, List.getElem?_cons_zero, List.getElem?_cons_succ, Option.getD_some, Flow.wpFl, Flow.SameAll]) | (with_reducible refine Flow.region_flow (id := 21) [0, 0, 2, 6, 14, 0, 32, 126, 255, 511] 512 508 [(0, none), (1, none), (2, none), (3, none), (4, none), (5, none), (6, none), (7, none), (8, none), (9, some [])] mixed ?hB ?_; (case hB => decide +kernel); simp only [Flow.textOf, List.map_cons, List.map_nil, Option.map_none, Option.map_some, Array.getD_eq_getD_getElem?, List.getElem?_toArray, List.getElem?_cons_zero, List.getElem?_cons_succ, Option.getD_some, Flow.wpFl, Flow.SameAll]) | (refine Flow.region_still mixed ?hB ?_; (case hB => decide +kernel)))
  go_end0
  exact ⟨rfl, HS2.out.1.fr (S := fun _ => False) (by (repeat' (first | with_reducible exact Fr.refl _ _ | with_reducible apply Fr.alloc | with_reducible apply Fr.drew | with_reducible apply Fr.drewN | (with_reducible refine Fr.setCell ?_ ?_ _)))) (fun _ _ h => h), ((HS.out.2.mono (S2 := R) (fun k _ e => by rw [e]; exact hpR.1)).trans (HS2.out.2.mono (S2 := R) (fun k _ e => by rw [e]; exact hpR.1)) (fun k _ h => h)).trans (S := R) (S2 := fun _ => False) (by (repeat' (first | with_reducible exact Fr.refl _ _ | with_reducible apply Fr.alloc | with_reducible apply Fr.drew | with_reducible apply Fr.drewN | (with_reducible refine Fr.setCell ?_ ?_ _)))) (fun k _ h => h.elim)⟩
set_option maxHeartbeats 2000000 in
theorem plain_zero0 (B ob i : Nat) (R : Nat → Prop) (ids : List (Nat × Nat)) (m : M) (p : Nat × Nat) (t : Th) (op d a b n to : Int) (hg : t.get a ≠ 0) (w : World) (h : RunRep w B R ids ob m) (hp : ids[i]? = some p) (ht : m.ths[i]? = some t) :
    Calls Try.prog 24 #[.pointer (some ⟨B, 0, none⟩), .pointer (some ⟨p.1, 0, none⟩), .agg (insC ⟨7, op, d, a, b, n, to⟩).toArray] w fun e w' => e = .returned (.tuple #[]) ∧ RunRep w' B R ids ob { m with ths := m.ths.set i t.step } ∧ Fr R w w' := by
  have hpR := (h.inT p (List.mem_of_getElem? hp))
  obtain ⟨ca, cc, hb, ho, hm⟩ := h.ths i p t hp ht
  have b1 : w.cell? ⟨p.1, 1, none⟩ = some (.int .i64 t.at_) := (hb.cell 1).trans rfl
  have b2 : w.cell? ⟨p.1, 2, none⟩ = some (.map (some p.2)) := (hb.cell 2).trans rfl
  have f1 := hb.free 1
  have hlt := hb.lt
  have hs := stepTh h hp ht (wrap64 (t.at_ + 1))
  have hi : i < m.ths.length := (List.getElem?_eq_some_iff.1 ht).1
  have ht2 : (m.ths.set i { t with at_ := wrap64 (t.at_ + 1) })[i]? = some { t with at_ := wrap64 (t.at_ + 1) } := by simp [hi]
  clear hb ho hm
  obtain ⟨wb, hwb, hfb⟩ : ∃ wb, wb = ((w.setCell ⟨p.1, 1, none⟩ (.int .i64 (wrap64 (t.at_ + 1)))).alloc (.cells (insC ⟨7, op, d, a, b, n, to⟩).toArray 42)).drew ∧ Fr (fun _ => False) (w.setCell ⟨p.1, 1, none⟩ (.int .i64 (wrap64 (t.at_ + 1)))) wb := ⟨_, rfl, by (repeat' (first | with_reducible exact Fr.refl _ _ | with_reducible apply Fr.alloc | with_reducible apply Fr.drew | with_reducible apply Fr.drewN | (with_reducible refine Fr.setCell ?_ ?_ _)))⟩
  have h3 := hs.1.fr hfb (fun _ _ h => h)
  have hF := (hs.2.mono (S2 := R) (fun k _ e => by rw [e]; exact hpR.1)).trans hfb (fun k _ h => h.elim)
  obtain ⟨ca2, cc2, k1, k2, k3⟩ := h3.ths i p _ hp ht2
  have H3 := hid h3
  have HF := hid hF
  have K1 := hid k1
  have K3 := hid k3
  clear h3 hF k1 k2 k3 hfb
  have hl := run_look under_regs under_int K3.out a (run_zero zero_i64 wb) false
  have hz : ((regC t.regs) a).getD (.int .i64 0) = .int .i64 (t.get a) := by unfold regC Th.get; cases t.regs a <;> rfl
  simp only [hz, Bool.false_eq_true, if_false] at hl
  clear hz
  have HS := hid hs
  clear h hs K1 K3 H3 HF
  dsimp only [insC] at *
  rw [hwb] at hl
  go_enter Try.func24, Try.ntmps24
  go_wp2_with (first | fail | still_step | (with_reducible refine wpStill_nil ?_) | (with_reducible refine Flow.Both.mk ?_ ?_) | (with_reducible exact True.intro) | (with_reducible refine Flow.same_mk rfl rfl rfl ?_; go_simp; done) | (with_reducible exact Flow.same_un rfl rfl rfl) | (with_reducible refine Flow.region_flow (id := 6) [0, 0, 2, 0, 8, 24, 56, 0, 128, 504, 1023] 1024 1014 [(0, none), (1, none), (2, none), (3, none), (4, none), (5, none), (6, none), (7, none), (8, none), (9, none), (10, some [])] mixed ?hB ?_; (case hB => decide +kernel); simp only [Flow.textOf, List.map_cons, List.map_nil, Option.map_none, Option.map_some, Array.getD_eq_getD_getElem?, List.getElem?_toArray, List.getElem?_cons_zero, List.getElem?_cons_succ, Option.getD_some, Flow.wpFl, Flow.SameAll]) | (with_reducible refine Flow.region_flow (id := 8) [0, 0, 2, 0, 8, 0, 32, 96, 224, 0, 512, 2016, 0, 4096, 12288, 28672, 0, 65536, 258048, 524280, 1048575] 1572864 520158 [(0, none), (1, none), (2, none), (3, none), (4, none), (5, none), (6, none), (7, none), (8, none), (9, none), (10, none), (11, none), (12, none), (13, none), (14, none), (15, none), (16, none), (17, none), (18, none), (19, some [1, 2]), (20, some [])] mixed ?hB ?_; (case hB => decide +kernel); simp only [Flow.textOf, List.map_cons, List.map_nil, Option.map_none, Option.map_some, Array.getD_eq_getD_getElem?, List.getElem?_toArray, List.getElem?_cons_zero, List.getElem?_cons_succ, Option.getD_some, Flow.wpFl, Flow.SameAll]) | (with_reducible refine Flow.region_flow (id := 11) [0, 0, 2, 0, 8, 24, 56, 0, 128, 504, 1023] 1024 1014 [(0, none), (1, none), (2, none), (3, none), (4, none), (5, none), (6, none), (7, none), (8, none), (9, none), (10, some [])] mixed ?hB ?_; (case hB => decide +kernel); simp only [Flow.textOf, List.map_cons, List.map_nil, Option.map_none, Option.map_some, Array.getD_eq_getD_getElem?, List.getElem?_toArray, List.getElem?_cons_zero, List.getElem?_cons_succ, Option.getD_some, Flow.wpFl, Flow.SameAll]) | (with_reducible refine Flow.region_flow (id := 21) [0, 0, 2, 6, 14, 0, 32, 126, 255, 511] 512 508 [(0, none), (1, none), (2, none), (3, none), (4, none), (5, none), (6, none), (7, none), (8, none), (9, some [])] mixed ?hB ?_; (case hB => decide +kernel); simp only [Flow.textOf, List.map_cons, List.map_nil, Option.map_none, Option.map_some, Array.getD_eq_getD_getElem?, List.getElem?_toArray, List.getElem?_cons_zero, List.getElem?_cons_succ, Option.getD_some, Flow.wpFl, Flow.SameAll]) | (refine Flow.region_still mixed ?hB ?_; (case hB => decide +kernel)))
  go_end0
  exact ⟨rfl, HS.out.1.fr (S := fun _ => False) (by (repeat' (first | with_reducible exact Fr.refl _ _ | with_reducible apply Fr.alloc | with_reducible apply Fr.drew | with_reducible apply Fr.drewN | (with_reducible refine Fr.setCell ?_ ?_ _)))) (fun _ _ h => h), (HS.out.2.mono (S2 := R) (fun k _ e => by rw [e]; exact hpR.1)).trans (S := R) (S2 := fun _ => False) (by (repeat' (first | with_reducible exact Fr.refl _ _ | with_reducible apply Fr.alloc | with_reducible apply Fr.drew | with_reducible apply Fr.drewN | (with_reducible refine Fr.setCell ?_ ?_ _)))) (fun k _ h => h.elim)⟩
set_option maxHeartbeats 2000000 in
theorem plain_pick0 (B ob i : Nat) (R : Nat → Prop) (ids : List (Nat × Nat)) (m : M) (p : Nat × Nat) (t : Th) (op d a b n to : Int) (hg : t.get a = 0) (w : World) (h : RunRep w B R ids ob m) (hp : ids[i]? = some p) (ht : m.ths[i]? = some t) :
    Calls Try.prog 24 #[.pointer (some ⟨B, 0, none⟩), .pointer (some ⟨p.1, 0, none⟩), .agg (insC ⟨3, op, d, a, b, n, to⟩).toArray] w fun e w' => e = .returned (.tuple #[]) ∧ RunRep w' B R ids ob { m with ths := m.ths.set i t.step } ∧ Fr R w w' := by
  have hpR := (h.inT p (List.mem_of_getElem? hp))
  obtain ⟨ca, cc, hb, ho, hm⟩ := h.ths i p t hp ht
  have b1 : w.cell? ⟨p.1, 1, none⟩ = some (.int .i64 t.at_) := (hb.cell 1).trans rfl
  have b2 : w.cell? ⟨p.1, 2, none⟩ = some (.map (some p.2)) := (hb.cell 2).trans rfl
  have f1 := hb.free 1
  have hlt := hb.lt
  have hs := stepTh h hp ht (wrap64 (t.at_ + 1))
  have hi : i < m.ths.length := (List.getElem?_eq_some_iff.1 ht).1
  have ht2 : (m.ths.set i { t with at_ := wrap64 (t.at_ + 1) })[i]? = some { t with at_ := wrap64 (t.at_ + 1) } := by simp [hi]
  clear hb ho hm
  obtain ⟨wb, hwb, hfb⟩ : ∃ wb, wb = ((w.setCell ⟨p.1, 1, none⟩ (.int .i64 (wrap64 (t.at_ + 1)))).alloc (.cells (insC ⟨3, op, d, a, b, n, to⟩).toArray 42)).drew ∧ Fr (fun _ => False) (w.setCell ⟨p.1, 1, none⟩ (.int .i64 (wrap64 (t.at_ + 1)))) wb := ⟨_, rfl, by (repeat' (first | with_reducible exact Fr.refl _ _ | with_reducible apply Fr.alloc | with_reducible apply Fr.drew | with_reducible apply Fr.drewN | (with_reducible refine Fr.setCell ?_ ?_ _)))⟩
  have h3 := hs.1.fr hfb (fun _ _ h => h)
  have hF := (hs.2.mono (S2 := R) (fun k _ e => by rw [e]; exact hpR.1)).trans hfb (fun k _ h => h.elim)
  obtain ⟨ca2, cc2, k1, k2, k3⟩ := h3.ths i p _ hp ht2
  have H3 := hid h3
  have HF := hid hF
  have K1 := hid k1
  have K3 := hid k3
  clear h3 hF k1 k2 k3 hfb
  have hl := run_look under_regs under_int K3.out a (run_zero zero_i64 wb) false
  have hz : ((regC t.regs) a).getD (.int .i64 0) = .int .i64 (t.get a) := by unfold regC Th.get; cases t.regs a <;> rfl
  simp only [hz, Bool.false_eq_true, if_false] at hl
  clear hz
  have HS := hid hs
  clear h hs K1 K3 H3 HF
  dsimp only [insC] at *
  rw [hwb, hg] at hl
  go_enter Try.func24, Try.ntmps24
  go_wp2_with (first | fail | still_step | (with_reducible refine wpStill_nil ?_) | (with_reducible refine Flow.Both.mk ?_ ?_) | (with_reducible exact True.intro) | (with_reducible refine Flow.same_mk rfl rfl rfl ?_; go_simp; done) | (with_reducible exact Flow.same_un rfl rfl rfl) | (with_reducible refine Flow.region_flow (id := 6) [0, 0, 2, 0, 8, 24, 56, 0, 128, 504, 1023] 1024 1014 [(0, none), (1, none), (2, none), (3, none), (4, none), (5, none), (6, none), (7, none), (8, none), (9, none), (10, some [])] mixed ?hB ?_; (case hB => decide +kernel); simp only [Flow.textOf, List.map_cons, List.map_nil, Option.map_none, Option.map_some, Array.getD_eq_getD_getElem?, List.getElem?_toArray, List.getElem?_cons_zero, List.getElem?_cons_succ, Option.getD_some, Flow.wpFl, Flow.SameAll]) | (with_reducible refine Flow.region_flow (id := 8) [0, 0, 2, 0, 8, 0, 32, 96, 224, 0, 512, 2016, 0, 4096, 12288, 28672, 0, 65536, 258048, 524280, 1048575] 1572864 520158 [(0, none), (1, none), (2, none), (3, none), (4, none), (5, none), (6, none), (7, none), (8, none), (9, none), (10, none), (11, none), (12, none), (13, none), (14, none), (15, none), (16, none), (17, none), (18, none), (19, some [1, 2]), (20, some [])] mixed ?hB ?_; (case hB => decide +kernel); simp only [Flow.textOf, List.map_cons, List.map_nil, Option.map_none, Option.map_some, Array.getD_eq_getD_getElem?, List.getElem?_toArray, List.getElem?_cons_zero, List.getElem?_cons_succ, Option.getD_some, Flow.wpFl, Flow.SameAll]) | (with_reducible refine Flow.region_flow (id := 11) [0, 0, 2, 0, 8, 24, 56, 0, 128, 504, 1023] 1024 1014 [(0, none), (1, none), (2, none), (3, none), (4, none), (5, none), (6, none), (7, none), (8, none), (9, none), (10, some [])] mixed ?hB ?_; (case hB => decide +kernel); simp only [Flow.textOf, List.map_cons, List.map_nil, Option.map_none, Option.map_some, Array.getD_eq_getD_getElem?, List.getElem?_toArray, List.getElem?_cons_zero, List.getElem?_cons_succ, Option.getD_some, Flow.wpFl, Flow.SameAll]) | (with_reducible refine Flow.region_flow (id := 21) [0, 0, 2, 6, 14, 0, 32, 126, 255, 511] 512 508 [(0, none), (1, none), (2, none), (3, none), (4, none), (5, none), (6, none), (7, none), (8, none), (9, some [])] mixed ?hB ?_; (case hB => decide +kernel); simp only [Flow.textOf, List.map_cons, List.map_nil, Option.map_none, Option.map_some, Array.getD_eq_getD_getElem?, List.getElem?_toArray, List.getElem?_cons_zero, List.getElem?_cons_succ, Option.getD_some, Flow.wpFl, Flow.SameAll]) | (refine Flow.region_still mixed ?hB ?_; (case hB => decide +kernel)))
  go_end0
  exact ⟨rfl, HS.out.1.fr (S := fun _ => False) (by (repeat' (first | with_reducible exact Fr.refl _ _ | with_reducible apply Fr.alloc | with_reducible apply Fr.drew | with_reducible apply Fr.drewN | (with_reducible refine Fr.setCell ?_ ?_ _)))) (fun _ _ h => h), (HS.out.2.mono (S2 := R) (fun k _ e => by rw [e]; exact hpR.1)).trans (S := R) (S2 := fun _ => False) (by (repeat' (first | with_reducible exact Fr.refl _ _ | with_reducible apply Fr.alloc | with_reducible apply Fr.drew | with_reducible apply Fr.drewN | (with_reducible refine Fr.setCell ?_ ?_ _)))) (fun k _ h => h.elim)⟩
set_option maxHeartbeats 2000000 in
theorem plain_else (B ob i : Nat) (R : Nat → Prop) (ids : List (Nat × Nat)) (m : M) (p : Nat × Nat) (t : Th) (op d a b n to : Int) (k : Int) (hk : k ≠ 0 ∧ k ≠ 1 ∧ k ≠ 2 ∧ k ≠ 3 ∧ k ≠ 4 ∧ k ≠ 5 ∧ k ≠ 6 ∧ k ≠ 7) (w : World) (h : RunRep w B R ids ob m) (hp : ids[i]? = some p) (ht : m.ths[i]? = some t) :
    Calls Try.prog 24 #[.pointer (some ⟨B, 0, none⟩), .pointer (some ⟨p.1, 0, none⟩), .agg (insC ⟨k, op, d, a, b, n, to⟩).toArray] w fun e w' => e = .returned (.tuple #[]) ∧ RunRep w' B R ids ob { m with ths := m.ths.set i t.step } ∧ Fr R w w' := by
  obtain ⟨e0, e1, e2, e3, e4, e5, e6, e7⟩ := hk
  have hpR := (h.inT p (List.mem_of_getElem? hp))
  obtain ⟨ca, cc, hb, ho, hm⟩ := h.ths i p t hp ht
  have b1 : w.cell? ⟨p.1, 1, none⟩ = some (.int .i64 t.at_) := (hb.cell 1).trans rfl
  have b2 : w.cell? ⟨p.1, 2, none⟩ = some (.map (some p.2)) := (hb.cell 2).trans rfl
  have f1 := hb.free 1
  have hlt := hb.lt
  have hs := stepTh h hp ht (wrap64 (t.at_ + 1))
  have hi : i < m.ths.length := (List.getElem?_eq_some_iff.1 ht).1
  have ht2 : (m.ths.set i { t with at_ := wrap64 (t.at_ + 1) })[i]? = some { t with at_ := wrap64 (t.at_ + 1) } := by simp [hi]
  clear hb ho hm
  obtain ⟨wb, hwb, hfb⟩ : ∃ wb, wb = ((w.setCell ⟨p.1, 1, none⟩ (.int .i64 (wrap64 (t.at_ + 1)))).alloc (.cells (insC ⟨k, op, d, a, b, n, to⟩).toArray 42)) ∧ Fr (fun _ => False) (w.setCell ⟨p.1, 1, none⟩ (.int .i64 (wrap64 (t.at_ + 1)))) wb := ⟨_, rfl, by (repeat' (first | with_reducible exact Fr.refl _ _ | with_reducible apply Fr.alloc | with_reducible apply Fr.drew | with_reducible apply Fr.drewN | (with_reducible refine Fr.setCell ?_ ?_ _)))⟩
  have h3 := hs.1.fr hfb (fun _ _ h => h)
  have hF := (hs.2.mono (S2 := R) (fun k _ e => by rw [e]; exact hpR.1)).trans hfb (fun k _ h => h.elim)
  obtain ⟨ca2, cc2, k1, k2, k3⟩ := h3.ths i p _ hp ht2
  have H3 := hid h3
  have HF := hid hF
  have K1 := hid k1
  have K3 := hid k3
  clear h3 hF k1 k2 k3 hfb
  have HS := hid hs
  clear h hs K1 K3 H3 HF
  dsimp only [insC] at *
  go_enter Try.func24, Try.ntmps24
  go_wp2_with (first | fail | still_step | (with_reducible refine wpStill_nil ?_) | (with_reducible refine Flow.Both.mk ?_ ?_) | (with_reducible exact True.intro) | (with_reducible refine Flow.same_mk rfl rfl rfl ?_; go_simp; done) | (with_reducible exact Flow.same_un rfl rfl rfl) | (with_reducible refine Flow.region_flow (id := 6) [0, 0, 2, 0, 8, 24, 56, 0, 128, 504, 1023] 1024 1014 [(0, none), (1, none), (2, none), (3, none), (4, none), (5, none), (6, none), (7, none), (8, none), (9, none), (10, some [])] mixed ?hB ?_; (case hB => decide +kernel); simp only [Flow.textOf, List.map_cons, List.map_nil, Option.map_none, Option.map_some, Array.getD_eq_getD_getElem?, List.getElem?_toArray, List.getElem?_cons_zero, List.getElem?_cons_succ, Option.getD_some, Flow.wpFl, Flow.SameAll]) | (with_reducible refine Flow.region_flow (id := 8) [0, 0, 2, 0, 8, 0, 32, 96, 224, 0, 512, 2016, 0, 4096, 12288, 28672, 0, 65536, 258048, 524280, 1048575] 1572864 520158 [(0, none), (1, none), (2, none), (3, none), (4, none), (5, none), (6, none), (7, none), (8, none), (9, none), (10, none), (11, none), (12, none), (13, none), (14, none), (15, none), (16, none), (17, none), (18, none), (19, some [1, 2]), (20, some [])] mixed ?hB ?_; (case hB => decide +kernel); simp only [Flow.textOf, List.map_cons, List.map_nil, Option.map_none, Option.map_some, Array.getD_eq_getD_getElem?, List.getElem?_toArray, List.getElem?_cons_zero, List.getElem?_cons_succ, Option.getD_some, Flow.wpFl, Flow.SameAll]) | (with_reducible refine Flow.region_flow (id := 11) [0, 0, 2, 0, 8, 24, 56, 0, 128, 504, 1023] 1024 1014 [(0, none), (1, none), (2, none), (3, none), (4, none), (5, none), (6, none), (7, none), (8, none), (9, none), (10, some [])] mixed ?hB ?_; (case hB => decide +kernel); simp only [Flow.textOf, List.map_cons, List.map_nil, Option.map_none, Option.map_some, Array.getD_eq_getD_getElem?, List.getElem?_toArray, List.getElem?_cons_zero, List.getElem?_cons_succ, Option.getD_some, Flow.wpFl, Flow.SameAll]) | (with_reducible refine Flow.region_flow (id := 21) [0, 0, 2, 6, 14, 0, 32, 126, 255, 511] 512 508 [(0, none), (1, none), (2, none), (3, none), (4, none), (5, none), (6, none), (7, none), (8, none), (9, some [])] mixed ?hB ?_; (case hB => decide +kernel); simp only [Flow.textOf, List.map_cons, List.map_nil, Option.map_none, Option.map_some, Array.getD_eq_getD_getElem?, List.getElem?_toArray, List.getElem?_cons_zero, List.getElem?_cons_succ, Option.getD_some, Flow.wpFl, Flow.SameAll]) | (refine Flow.region_still mixed ?hB ?_; (case hB => decide +kernel)))
  go_end0
  exact ⟨rfl, HS.out.1.fr (S := fun _ => False) (by (repeat' (first | with_reducible exact Fr.refl _ _ | with_reducible apply Fr.alloc | with_reducible apply Fr.drew | with_reducible apply Fr.drewN | (with_reducible refine Fr.setCell ?_ ?_ _)))) (fun _ _ h => h), (HS.out.2.mono (S2 := R) (fun k _ e => by rw [e]; exact hpR.1)).trans (S := R) (S2 := fun _ => False) (by (repeat' (first | with_reducible exact Fr.refl _ _ | with_reducible apply Fr.alloc | with_reducible apply Fr.drew | with_reducible apply Fr.drewN | (with_reducible refine Fr.setCell ?_ ?_ _)))) (fun k _ h => h.elim)⟩
end Go.Proofs.Ytokmdjpaegaojaa.Seq
