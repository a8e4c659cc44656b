/-
  What an instruction does that is no event.
-/
import Derived.Test.YtokmdjpaegaojaaSeq3
namespace Go.Proofs.Ytokmdjpaegaojaa.Seq
open Go.RowKit
attribute [local irreducible] wpStill wpList Calls CallsIn

/-- The place goes on. -/
theorem stepTh {w : World} {B ob i : Nat} {R : Nat → Prop} {ids : List (Nat × Nat)} {m : M} {p : Nat × Nat} {t : Th} (h : RunRep w B R ids ob m) (hp : ids[i]? = some p) (ht : m.ths[i]? = some t) (x : Int) :
    RunRep (w.setCell ⟨p.1, 1, none⟩ (.int .i64 x)) B R ids ob { m with ths := m.ths.set i { t with at_ := x } } ∧ Fr (fun k => k = p.1) w (w.setCell ⟨p.1, 1, none⟩ (.int .i64 x)) := by
  have hf : Fr (fun k => k = p.1) w (w.setCell ⟨p.1, 1, none⟩ (.int .i64 x)) := by (repeat' (first | with_reducible exact Fr.refl _ _ | with_reducible apply Fr.alloc | with_reducible apply Fr.drew | with_reducible apply Fr.drewN | (with_reducible refine Fr.setCell ?_ ?_ _))); exact fun _ => rfl
  obtain ⟨ca, cc, l1, l2, l3⟩ := h.ths i p t hp ht
  refine ⟨h.setTh hp ht p.1 (.inl rfl) hf ⟨ca, cc, by simpa using l1.set 1 (.int .i64 x), own_fr1 l2 hf (by rw [ty_blk l1]; decide), map_fr1 l3 hf (.inl (by rw [ty_blk l1]; simp))⟩, hf⟩

/-- A register has changed. -/
theorem regTh {w w1 : World} {B ob i : Nat} {R : Nat → Prop} {ids : List (Nat × Nat)} {m : M} {p : Nat × Nat} {t : Th} (h : RunRep w B R ids ob m) (hp : ids[i]? = some p) (ht : m.ths[i]? = some t) {f : Int → Option Int}
    (hm : MapF w1 p.2 .i64 (regC f)) (hf : Fr (fun k => k = p.2) w w1) : RunRep w1 B R ids ob { m with ths := m.ths.set i { t with regs := f } } := by
  obtain ⟨ca, cc, l1, l2, l3⟩ := h.ths i p t hp ht
  have hn : ∀ T, tyAt w p.2 ≠ some T := fun T e => by rw [ty_map l3] at e; cases e
  exact h.setTh hp ht p.2 (.inr rfl) hf ⟨ca, cc, blk_fr1 l1 hf (.inl (hn _)), own_fr1 l2 hf (hn _), hm⟩

set_option maxHeartbeats 2000000 in
theorem plain_set (B ob i : Nat) (R : Nat → Prop) (ids : List (Nat × Nat)) (m : M) (p : Nat × Nat) (t : Th) (op d a b n to : Int) (w : World) (h : RunRep w B R ids ob m) (hp : ids[i]? = some p) (ht : m.ths[i]? = some t) :
    Calls Try.prog 24 #[.pointer (some ⟨B, 0, none⟩), .pointer (some ⟨p.1, 0, none⟩), .agg (insC ⟨0, op, d, a, b, n, to⟩).toArray] w fun e w' => e = .returned (.tuple #[]) ∧ RunRep w' B R ids ob { m with ths := m.ths.set i (t.step.set d n) } ∧ Fr R w w' := by
  have hpR := (h.inT p (List.mem_of_getElem? hp))
  obtain ⟨ca, cc, hb, ho, hm⟩ := h.ths i p t hp ht
  have b1 : w.cell? ⟨p.1, 1, none⟩ = some (.int .i64 t.at_) := (hb.cell 1).trans rfl
  have f1 := hb.free 1
  have hlt := hb.lt
  have HR := hid h
  clear h hb ho hm
  dsimp only [insC]
  go_enter Try.func24, Try.ntmps24
  have hs := stepTh HR.out hp ht (wrap64 (t.at_ + 1))
  have hi : i < m.ths.length := (List.getElem?_eq_some_iff.1 ht).1
  have ht2 : (m.ths.set i { t with at_ := wrap64 (t.at_ + 1) })[i]? = some { t with at_ := wrap64 (t.at_ + 1) } := by simp [hi]
  have HS := hid hs
  clear hs
  go_wp2_with (first | fail | still_step | (with_reducible refine wpStill_nil ?_) | (with_reducible refine Flow.Both.mk ?_ ?_) | (with_reducible exact True.intro) | (with_reducible refine Flow.same_mk rfl rfl rfl ?_; go_simp; done) | (with_reducible exact Flow.same_un rfl rfl rfl) | (with_reducible refine Flow.region_flow (id := 6) [0, 0, 2, 0, 8, 24, 56, 0, 128, 504, 1023] 1024 1014 [(0, none), (1, none), (2, none), (3, none), (4, none), (5, none), (6, none), (7, none), (8, none), (9, none), (10, some [])] mixed ?hB ?_; (case hB => decide +kernel); simp only [Flow.textOf, List.map_cons, List.map_nil, Option.map_none, Option.map_some, Array.getD_eq_getD_getElem?, List.getElem?_toArray, List.getElem?_cons_zero, List.getElem?_cons_succ, Option.getD_some, Flow.wpFl, Flow.SameAll]) | (with_reducible refine Flow.region_flow (id := 8) [0, 0, 2, 0, 8, 0, 32, 96, 224, 0, 512, 2016, 0, 4096, 12288, 28672, 0, 65536, 258048, 524280, 1048575] 1572864 520158 [(0, none), (1, none), (2, none), (3, none), (4, none), (5, none), (6, none), (7, none), (8, none), (9, none), (10, none), (11, none), (12, none), (13, none), (14, none), (15, none), (16, none), (17, none), (18, none), (19, some [1, 2]), (20, some [])] mixed ?hB ?_; (case hB => decide +kernel); simp only [Flow.textOf, List.map_cons, List.map_nil, Option.map_none, Option.map_some, Array.getD_eq_getD_getElem?, List.getElem?_toArray, List.getElem?_cons_zero, List.getElem?_cons_succ, Option.getD_some, Flow.wpFl, Flow.SameAll]) | (with_reducible refine Flow.region_flow (id := 11) [0, 0, 2, 0, 8, 24, 56, 0, 128, 504, 1023] 1024 1014 [(0, none), (1, none), (2, none), (3, none), (4, none), (5, none), (6, none), (7, none), (8, none), (9, none), (10, some [])] mixed ?hB ?_; (case hB => decide +kernel); simp only [Flow.textOf, List.map_cons, List.map_nil, Option.map_none, Option.map_some, Array.getD_eq_getD_getElem?, List.getElem?_toArray, List.getElem?_cons_zero, List.getElem?_cons_succ, Option.getD_some, Flow.wpFl, Flow.SameAll]) | (with_reducible refine Flow.region_flow (id := 21) [0, 0, 2, 6, 14, 0, 32, 126, 255, 511] 512 508 [(0, none), (1, none), (2, none), (3, none), (4, none), (5, none), (6, none), (7, none), (8, none), (9, some [])] mixed ?hB ?_; (case hB => decide +kernel); simp only [Flow.textOf, List.map_cons, List.map_nil, Option.map_none, Option.map_some, Array.getD_eq_getD_getElem?, List.getElem?_toArray, List.getElem?_cons_zero, List.getElem?_cons_succ, Option.getD_some, Flow.wpFl, Flow.SameAll]) | (refine Flow.region_still mixed ?hB ?_; (case hB => decide +kernel)))
  obtain ⟨wb, hwb, hfb⟩ : ∃ wb, wb = (w.setCell ⟨p.1, 1, none⟩ (.int .i64 (wrap64 (t.at_ + 1)))).alloc (.cells (insC ⟨0, op, d, a, b, n, to⟩).toArray 42) ∧ Fr (fun _ => False) (w.setCell ⟨p.1, 1, none⟩ (.int .i64 (wrap64 (t.at_ + 1)))) wb := ⟨_, rfl, by (repeat' (first | with_reducible exact Fr.refl _ _ | with_reducible apply Fr.alloc | with_reducible apply Fr.drew | with_reducible apply Fr.drewN | (with_reducible refine Fr.setCell ?_ ?_ _)))⟩
  have h3 := HS.out.1.fr hfb (fun _ _ h => h)
  have hF := (HS.out.2.mono (S2 := R) (fun k _ e => by rw [e]; exact hpR.1)).trans hfb (fun k _ h => h.elim)
  dsimp only [insC] at hwb
  rw [← hwb]
  obtain ⟨ca2, cc2, k1, k2, k3⟩ := h3.ths i p _ hp ht2
  go_at_call 25
  refine (set_is p.1 p.2 _ _ _ t.regs d n wb k1 k3).mono ?_
  rintro e w2 ⟨rfl, hm, hf⟩
  have h4 := regTh h3 hp ht2 hm hf
  have hF4 := hF.trans (S := R) hf (fun k _ e => by rw [e]; exact hpR.2)
  have e4 : ({ m with ths := (m.ths.set i { t with at_ := wrap64 (t.at_ + 1) }).set i { t with at_ := wrap64 (t.at_ + 1), regs := if 0 ≤ d then updI t.regs d (some n) else t.regs } } : M) = { m with ths := m.ths.set i (t.step.set d n) } := by
    rw [List.set_set]
    unfold Th.step Th.set
    split <;> rfl
  have H4 := hid (e4 ▸ h4)
  have HF4 := hid hF4
  clear h4 hF4 hf hm k1 k2 k3 h3 hF e4
  go_wp2_with (first | fail | still_step | (with_reducible refine wpStill_nil ?_) | (with_reducible refine Flow.Both.mk ?_ ?_) | (with_reducible exact True.intro) | (with_reducible refine Flow.same_mk rfl rfl rfl ?_; go_simp; done) | (with_reducible exact Flow.same_un rfl rfl rfl) | (with_reducible refine Flow.region_flow (id := 6) [0, 0, 2, 0, 8, 24, 56, 0, 128, 504, 1023] 1024 1014 [(0, none), (1, none), (2, none), (3, none), (4, none), (5, none), (6, none), (7, none), (8, none), (9, none), (10, some [])] mixed ?hB ?_; (case hB => decide +kernel); simp only [Flow.textOf, List.map_cons, List.map_nil, Option.map_none, Option.map_some, Array.getD_eq_getD_getElem?, List.getElem?_toArray, List.getElem?_cons_zero, List.getElem?_cons_succ, Option.getD_some, Flow.wpFl, Flow.SameAll]) | (with_reducible refine Flow.region_flow (id := 8) [0, 0, 2, 0, 8, 0, 32, 96, 224, 0, 512, 2016, 0, 4096, 12288, 28672, 0, 65536, 258048, 524280, 1048575] 1572864 520158 [(0, none), (1, none), (2, none), (3, none), (4, none), (5, none), (6, none), (7, none), (8, none), (9, none), (10, none), (11, none), (12, none), (13, none), (14, none), (15, none), (16, none), (17, none), (18, none), (19, some [1, 2]), (20, some [])] mixed ?hB ?_; (case hB => decide +kernel); simp only [Flow.textOf, List.map_cons, List.map_nil, Option.map_none, Option.map_some, Array.getD_eq_getD_getElem?, List.getElem?_toArray, List.getElem?_cons_zero, List.getElem?_cons_succ, Option.getD_some, Flow.wpFl, Flow.SameAll]) | (with_reducible refine Flow.region_flow (id := 11) [0, 0, 2, 0, 8, 24, 56, 0, 128, 504, 1023] 1024 1014 [(0, none), (1, none), (2, none), (3, none), (4, none), (5, none), (6, none), (7, none), (8, none), (9, none), (10, some [])] mixed ?hB ?_; (case hB => decide +kernel); simp only [Flow.textOf, List.map_cons, List.map_nil, Option.map_none, Option.map_some, Array.getD_eq_getD_getElem?, List.getElem?_toArray, List.getElem?_cons_zero, List.getElem?_cons_succ, Option.getD_some, Flow.wpFl, Flow.SameAll]) | (with_reducible refine Flow.region_flow (id := 21) [0, 0, 2, 6, 14, 0, 32, 126, 255, 511] 512 508 [(0, none), (1, none), (2, none), (3, none), (4, none), (5, none), (6, none), (7, none), (8, none), (9, some [])] mixed ?hB ?_; (case hB => decide +kernel); simp only [Flow.textOf, List.map_cons, List.map_nil, Option.map_none, Option.map_some, Array.getD_eq_getD_getElem?, List.getElem?_toArray, List.getElem?_cons_zero, List.getElem?_cons_succ, Option.getD_some, Flow.wpFl, Flow.SameAll]) | (refine Flow.region_still mixed ?hB ?_; (case hB => decide +kernel)))
  go_end0
  exact ⟨rfl, H4.out, HF4.out⟩

set_option maxHeartbeats 2000000 in
theorem plain_move (B ob i : Nat) (R : Nat → Prop) (ids : List (Nat × Nat)) (m : M) (p : Nat × Nat) (t : Th) (op d a b n to : Int) (w : World) (h : RunRep w B R ids ob m) (hp : ids[i]? = some p) (ht : m.ths[i]? = some t) :
    Calls Try.prog 24 #[.pointer (some ⟨B, 0, none⟩), .pointer (some ⟨p.1, 0, none⟩), .agg (insC ⟨1, op, d, a, b, n, to⟩).toArray] w fun e w' => e = .returned (.tuple #[]) ∧ RunRep w' B R ids ob { m with ths := m.ths.set i (t.step.set d (t.get a)) } ∧ Fr R w w' := by
  have hpR := (h.inT p (List.mem_of_getElem? hp))
  obtain ⟨ca, cc, hb, ho, hm⟩ := h.ths i p t hp ht
  have b1 : w.cell? ⟨p.1, 1, none⟩ = some (.int .i64 t.at_) := (hb.cell 1).trans rfl
  have b2 : w.cell? ⟨p.1, 2, none⟩ = some (.map (some p.2)) := (hb.cell 2).trans rfl
  have f1 := hb.free 1
  have hlt := hb.lt
  have HR := hid h
  have hs := stepTh HR.out hp ht (wrap64 (t.at_ + 1))
  have hi : i < m.ths.length := (List.getElem?_eq_some_iff.1 ht).1
  have ht2 : (m.ths.set i { t with at_ := wrap64 (t.at_ + 1) })[i]? = some { t with at_ := wrap64 (t.at_ + 1) } := by simp [hi]
  obtain ⟨wb, hwb, hfb⟩ : ∃ wb, wb = ((w.setCell ⟨p.1, 1, none⟩ (.int .i64 (wrap64 (t.at_ + 1)))).alloc (.cells (insC ⟨1, op, d, a, b, n, to⟩).toArray 42)).drew ∧ Fr (fun _ => False) (w.setCell ⟨p.1, 1, none⟩ (.int .i64 (wrap64 (t.at_ + 1)))) wb := ⟨_, rfl, by (repeat' (first | with_reducible exact Fr.refl _ _ | with_reducible apply Fr.alloc | with_reducible apply Fr.drew | with_reducible apply Fr.drewN | (with_reducible refine Fr.setCell ?_ ?_ _)))⟩
  have h3 := hs.1.fr hfb (fun _ _ h => h)
  have hF := (hs.2.mono (S2 := R) (fun k _ e => by rw [e]; exact hpR.1)).trans hfb (fun k _ h => h.elim)
  obtain ⟨ca2, cc2, k1, k2, k3⟩ := h3.ths i p _ hp ht2
  have hz : ((regC t.regs) a).getD (.int .i64 0) = .int .i64 (t.get a) := by unfold regC Th.get; cases t.regs a <;> rfl
  have hl := run_look under_regs under_int k3 a (run_zero zero_i64 wb) false
  simp only [hz, Bool.false_eq_true, if_false] at hl
  have H3 := hid h3
  have HF := hid hF
  have K1 := hid k1
  have K3 := hid k3
  clear h hb ho hm hs h3 hF k1 k2 k3 hz hfb
  dsimp only [insC] at *
  rw [hwb] at hl
  go_enter Try.func24, Try.ntmps24
  go_wp2_with (first | fail | still_step | (with_reducible refine wpStill_nil ?_) | (with_reducible refine Flow.Both.mk ?_ ?_) | (with_reducible exact True.intro) | (with_reducible refine Flow.same_mk rfl rfl rfl ?_; go_simp; done) | (with_reducible exact Flow.same_un rfl rfl rfl) | (with_reducible refine Flow.region_flow (id := 6) [0, 0, 2, 0, 8, 24, 56, 0, 128, 504, 1023] 1024 1014 [(0, none), (1, none), (2, none), (3, none), (4, none), (5, none), (6, none), (7, none), (8, none), (9, none), (10, some [])] mixed ?hB ?_; (case hB => decide +kernel); simp only [Flow.textOf, List.map_cons, List.map_nil, Option.map_none, Option.map_some, Array.getD_eq_getD_getElem?, List.getElem?_toArray, List.getElem?_cons_zero, List.getElem?_cons_succ, Option.getD_some, Flow.wpFl, Flow.SameAll]) | (with_reducible refine Flow.region_flow (id := 8) [0, 0, 2, 0, 8, 0, 32, 96, 224, 0, 512, 2016, 0, 4096, 12288, 28672, 0, 65536, 258048, 524280, 1048575] 1572864 520158 [(0, none), (1, none), (2, none), (3, none), (4, none), (5, none), (6, none), (7, none), (8, none), (9, none), (10, none), (11, none), (12, none), (13, none), (14, none), (15, none), (16, none), (17, none), (18, none), (19, some [1, 2]), (20, some [])] mixed ?hB ?_; (case hB => decide +kernel); simp only [Flow.textOf, List.map_cons, List.map_nil, Option.map_none, Option.map_some, Array.getD_eq_getD_getElem?, List.getElem?_toArray, List.getElem?_cons_zero, List.getElem?_cons_succ, Option.getD_some, Flow.wpFl, Flow.SameAll]) | (with_reducible refine Flow.region_flow (id := 11) [0, 0, 2, 0, 8, 24, 56, 0, 128, 504, 1023] 1024 1014 [(0, none), (1, none), (2, none), (3, none), (4, none), (5, none), (6, none), (7, none), (8, none), (9, none), (10, some [])] mixed ?hB ?_; (case hB => decide +kernel); simp only [Flow.textOf, List.map_cons, List.map_nil, Option.map_none, Option.map_some, Array.getD_eq_getD_getElem?, List.getElem?_toArray, List.getElem?_cons_zero, List.getElem?_cons_succ, Option.getD_some, Flow.wpFl, Flow.SameAll]) | (with_reducible refine Flow.region_flow (id := 21) [0, 0, 2, 6, 14, 0, 32, 126, 255, 511] 512 508 [(0, none), (1, none), (2, none), (3, none), (4, none), (5, none), (6, none), (7, none), (8, none), (9, some [])] mixed ?hB ?_; (case hB => decide +kernel); simp only [Flow.textOf, List.map_cons, List.map_nil, Option.map_none, Option.map_some, Array.getD_eq_getD_getElem?, List.getElem?_toArray, List.getElem?_cons_zero, List.getElem?_cons_succ, Option.getD_some, Flow.wpFl, Flow.SameAll]) | (refine Flow.region_still mixed ?hB ?_; (case hB => decide +kernel)))
  rw [← hwb]
  go_at_call 25
  refine (set_is p.1 p.2 _ _ _ t.regs d (t.get a) wb K1.out K3.out).mono ?_
  rintro e w2 ⟨rfl, hm, hf⟩
  have h4 := regTh H3.out hp ht2 hm hf
  have hF4 := HF.out.trans (S := R) hf (fun k _ e => by rw [e]; exact hpR.2)
  have e4 : ({ m with ths := (m.ths.set i { t with at_ := wrap64 (t.at_ + 1) }).set i { t with at_ := wrap64 (t.at_ + 1), regs := if 0 ≤ d then updI t.regs d (some (t.get a)) else t.regs } } : M) = { m with ths := m.ths.set i (t.step.set d (t.get a)) } := by
    rw [List.set_set]
    unfold Th.step Th.set
    split <;> rfl
  have H4 := hid (e4 ▸ h4)
  have HF4 := hid hF4
  clear h4 hF4 hf hm e4
  go_wp2_with (first | fail | still_step | (with_reducible refine wpStill_nil ?_) | (with_reducible refine Flow.Both.mk ?_ ?_) | (with_reducible exact True.intro) | (with_reducible refine Flow.same_mk rfl rfl rfl ?_; go_simp; done) | (with_reducible exact Flow.same_un rfl rfl rfl) | (with_reducible refine Flow.region_flow (id := 6) [0, 0, 2, 0, 8, 24, 56, 0, 128, 504, 1023] 1024 1014 [(0, none), (1, none), (2, none), (3, none), (4, none), (5, none), (6, none), (7, none), (8, none), (9, none), (10, some [])] mixed ?hB ?_; (case hB => decide +kernel); simp only [Flow.textOf, List.map_cons, List.map_nil, Option.map_none, Option.map_some, Array.getD_eq_getD_getElem?, List.getElem?_toArray, List.getElem?_cons_zero, List.getElem?_cons_succ, Option.getD_some, Flow.wpFl, Flow.SameAll]) | (with_reducible refine Flow.region_flow (id := 8) [0, 0, 2, 0, 8, 0, 32, 96, 224, 0, 512, 2016, 0, 4096, 12288, 28672, 0, 65536, 258048, 524280, 1048575] 1572864 520158 [(0, none), (1, none), (2, none), (3, none), (4, none), (5, none), (6, none), (7, none), (8, none), (9, none), (10, none), (11, none), (12, none), (13, none), (14, none), (15, none), (16, none), (17, none), (18, none), (19, some [1, 2]), (20, some [])] mixed ?hB ?_; (case hB => decide +kernel); simp only [Flow.textOf, List.map_cons, List.map_nil, Option.map_none, Option.map_some, Array.getD_eq_getD_getElem?, List.getElem?_toArray, List.getElem?_cons_zero, List.getElem?_cons_succ, Option.getD_some, Flow.wpFl, Flow.SameAll]) | (with_reducible refine Flow.region_flow (id := 11) [0, 0, 2, 0, 8, 24, 56, 0, 128, 504, 1023] 1024 1014 [(0, none), (1, none), (2, none), (3, none), (4, none), (5, none), (6, none), (7, none), (8, none), (9, none), (10, some [])] mixed ?hB ?_; (case hB => decide +kernel); simp only [Flow.textOf, List.map_cons, List.map_nil, Option.map_none, Option.map_some, Array.getD_eq_getD_getElem?, List.getElem?_toArray, List.getElem?_cons_zero, List.getElem?_cons_succ, Option.getD_some, Flow.wpFl, Flow.SameAll]) | (with_reducible refine Flow.region_flow (id := 21) [0, 0, 2, 6, 14, 0, 32, 126, 255, 511] 512 508 [(0, none), (1, none), (2, none), (3, none), (4, none), (5, none), (6, none), (7, none), (8, none), (9, some [])] mixed ?hB ?_; (case hB => decide +kernel); simp only [Flow.textOf, List.map_cons, List.map_nil, Option.map_none, Option.map_some, Array.getD_eq_getD_getElem?, List.getElem?_toArray, List.getElem?_cons_zero, List.getElem?_cons_succ, Option.getD_some, Flow.wpFl, Flow.SameAll]) | (refine Flow.region_still mixed ?hB ?_; (case hB => decide +kernel)))
  go_end0
  exact ⟨rfl, H4.out, HF4.out⟩
end Go.Proofs.Ytokmdjpaegaojaa.Seq
