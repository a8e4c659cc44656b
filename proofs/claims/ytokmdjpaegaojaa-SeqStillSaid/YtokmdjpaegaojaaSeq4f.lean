/-
  What an instruction does that is no event.
-/
import Derived.Test.YtokmdjpaegaojaaSeq4e
namespace Go.Proofs.Ytokmdjpaegaojaa.Seq
open Go.RowKit
attribute [local irreducible] wpStill wpList Calls CallsIn

set_option maxHeartbeats 2000000 in
theorem plain_load0 (B ob i : Nat) (R : Nat → Prop) (ids : List (Nat × Nat)) (m : M) (p : Nat × Nat) (t : Th) (op d a b n to : Int) (hx : word m.mem t ⟨4, op, d, a, b, n, to⟩ = none) (w : World) (h : RunRep w B R ids ob m) (hp : ids[i]? = some p) (ht : m.ths[i]? = some t) :
    Calls Try.prog 24 #[.pointer (some ⟨B, 0, none⟩), .pointer (some ⟨p.1, 0, none⟩), .agg (insC ⟨4, op, d, a, b, n, to⟩).toArray] w fun e w' => e = .returned (.tuple #[]) ∧ RunRep w' B R ids ob { m with ths := m.ths.set i (t.step.set d 0) } ∧ Fr R w w' := by
  have hpR := (h.inT p (List.mem_of_getElem? hp))
  obtain ⟨ca, cc, hb, ho, hm⟩ := h.ths i p t hp ht
  have b1 : w.cell? ⟨p.1, 1, none⟩ = some (.int .i64 t.at_) := (hb.cell 1).trans rfl
  have b2 : w.cell? ⟨p.1, 2, none⟩ = some (.map (some p.2)) := (hb.cell 2).trans rfl
  have f1 := hb.free 1
  have hlt := hb.lt
  have hs := stepTh h hp ht (wrap64 (t.at_ + 1))
  have hi : i < m.ths.length := (List.getElem?_eq_some_iff.1 ht).1
  have ht2 : (m.ths.set i { t with at_ := wrap64 (t.at_ + 1) })[i]? = some { t with at_ := wrap64 (t.at_ + 1) } := by simp [hi]
  clear hb ho hm
  obtain ⟨wb, hwb, hfb⟩ : ∃ wb, wb = ((w.setCell ⟨p.1, 1, none⟩ (.int .i64 (wrap64 (t.at_ + 1)))).alloc (.cells (insC ⟨4, op, d, a, b, n, to⟩).toArray 42)) ∧ Fr (fun _ => False) (w.setCell ⟨p.1, 1, none⟩ (.int .i64 (wrap64 (t.at_ + 1)))) wb := ⟨_, rfl, by (repeat' (first | with_reducible exact Fr.refl _ _ | with_reducible apply Fr.alloc | with_reducible apply Fr.drew | with_reducible apply Fr.drewN | (with_reducible refine Fr.setCell ?_ ?_ _)))⟩
  have h3 := hs.1.fr hfb (fun _ _ h => h)
  have hF := (hs.2.mono (S2 := R) (fun k _ e => by rw [e]; exact hpR.1)).trans hfb (fun k _ h => h.elim)
  obtain ⟨ca2, cc2, k1, k2, k3⟩ := h3.ths i p _ hp ht2
  have H3 := hid h3
  have HF := hid hF
  have K1 := hid k1
  have K3 := hid k3
  clear h3 hF k1 k2 k3 hfb
  obtain ⟨ta, tc, ma, mc, hB0, _, hmm⟩ := H3.out.head
  have hB : wb.cell? ⟨B, 1, none⟩ = some (.slice ma m.mem.length mc) := (hB0.cell 1).trans rfl
  have hbl := hs.1.head.choose_spec
  have hbx : Blk wb w.heap.size (insC ⟨4, op, d, a, b, n, to⟩).toArray 42 := by
    have := Blk.new (w.setCell ⟨p.1, 1, none⟩ (.int .i64 (wrap64 (t.at_ + 1)))) (insC ⟨4, op, d, a, b, n, to⟩).toArray 42
    rw [hwb]
    simpa using this
  have hw := word_is B p.1 p.2 ma mc m.mem { t with at_ := wrap64 (t.at_ + 1) } ⟨4, op, d, a, b, n, to⟩ wb hB (ownPtr hmm) ((K1.out.cell 2).trans rfl) K3.out
  rw [show word m.mem { t with at_ := wrap64 (t.at_ + 1) } ⟨4, op, d, a, b, n, to⟩ = none from hx] at hw
  clear h hs hbl
  dsimp only [insC] at *
  go_enter Try.func24, Try.ntmps24
  go_wp2_with (first | fail | still_step | (with_reducible refine wpStill_nil ?_) | (with_reducible refine Flow.Both.mk ?_ ?_) | (with_reducible exact True.intro) | (with_reducible refine Flow.same_mk rfl rfl rfl ?_; go_simp; done) | (with_reducible exact Flow.same_un rfl rfl rfl) | (with_reducible refine Flow.region_flow (id := 6) [0, 0, 2, 0, 8, 24, 56, 0, 128, 504, 1023] 1024 1014 [(0, none), (1, none), (2, none), (3, none), (4, none), (5, none), (6, none), (7, none), (8, none), (9, none), (10, some [])] mixed ?hB ?_; (case hB => decide +kernel); simp only [Flow.textOf, List.map_cons, List.map_nil, Option.map_none, Option.map_some, Array.getD_eq_getD_getElem?, List.getElem?_toArray, List.getElem?_cons_zero, List.getElem?_cons_succ, Option.getD_some, Flow.wpFl, Flow.SameAll]) | (with_reducible refine Flow.region_flow (id := 8) [0, 0, 2, 0, 8, 0, 32, 96, 224, 0, 512, 2016, 0, 4096, 12288, 28672, 0, 65536, 258048, 524280, 1048575] 1572864 520158 [(0, none), (1, none), (2, none), (3, none), (4, none), (5, none), (6, none), (7, none), (8, none), (9, none), (10, none), (11, none), (12, none), (13, none), (14, none), (15, none), (16, none), (17, none), (18, none), (19, some [1, 2]), (20, some [])] mixed ?hB ?_; (case hB => decide +kernel); simp only [Flow.textOf, List.map_cons, List.map_nil, Option.map_none, Option.map_some, Array.getD_eq_getD_getElem?, List.getElem?_toArray, List.getElem?_cons_zero, List.getElem?_cons_succ, Option.getD_some, Flow.wpFl, Flow.SameAll]) | (with_reducible refine Flow.region_flow (id := 11) [0, 0, 2, 0, 8, 24, 56, 0, 128, 504, 1023] 1024 1014 [(0, none), (1, none), (2, none), (3, none), (4, none), (5, none), (6, none), (7, none), (8, none), (9, none), (10, some [])] mixed ?hB ?_; (case hB => decide +kernel); simp only [Flow.textOf, List.map_cons, List.map_nil, Option.map_none, Option.map_some, Array.getD_eq_getD_getElem?, List.getElem?_toArray, List.getElem?_cons_zero, List.getElem?_cons_succ, Option.getD_some, Flow.wpFl, Flow.SameAll]) | (with_reducible refine Flow.region_flow (id := 21) [0, 0, 2, 6, 14, 0, 32, 126, 255, 511] 512 508 [(0, none), (1, none), (2, none), (3, none), (4, none), (5, none), (6, none), (7, none), (8, none), (9, some [])] mixed ?hB ?_; (case hB => decide +kernel); simp only [Flow.textOf, List.map_cons, List.map_nil, Option.map_none, Option.map_some, Array.getD_eq_getD_getElem?, List.getElem?_toArray, List.getElem?_cons_zero, List.getElem?_cons_succ, Option.getD_some, Flow.wpFl, Flow.SameAll]) | (refine Flow.region_still mixed ?hB ?_; (case hB => decide +kernel)))
  rw [← hwb]
  go_at_call 27
  refine hw.mono ?_
  rintro e w1 ⟨rfl, hf1⟩
  rw [show wordPtr ma none = none by cases ma <;> rfl]
  have H3' := hid (H3.out.fr hf1 (fun _ _ h => h))
  have HF' := hid (HF.out.trans hf1 (fun k _ h => h.elim))
  have K1' := hid (K1.out.fr hf1 (fun h => h))
  have K3' := hid (K3.out.fr hf1 (fun h => h))
  clear H3 HF K1 K3
  have H3 := hid H3'.out
  have HF := hid HF'.out
  have K1 := hid K1'.out
  have K3 := hid K3'.out
  clear H3' HF' K1' K3'
  have x2 : World.cell? w1 ⟨w.heap.size, 2, none⟩ = some (.int .i64 d) := ((hbx.fr hf1 (fun h => h)).cell 2).trans rfl
  have x1 : World.cell? w1 ⟨w.heap.size, 1, none⟩ = some (.int .i64 op) := ((hbx.fr hf1 (fun h => h)).cell 1).trans rfl
  have x3 : World.cell? w1 ⟨w.heap.size, 3, none⟩ = some (.int .i64 a) := ((hbx.fr hf1 (fun h => h)).cell 3).trans rfl
  have x4 : World.cell? w1 ⟨w.heap.size, 4, none⟩ = some (.int .i64 b) := ((hbx.fr hf1 (fun h => h)).cell 4).trans rfl
  have y2 : World.cell? w1 ⟨p.1, 2, none⟩ = some (.map (some p.2)) := (K1.out.cell 2).trans rfl
  clear hf1
  dsimp only [wordPtr] at *
  go_wp2_with (first | fail | still_step | (with_reducible refine wpStill_nil ?_) | (with_reducible refine Flow.Both.mk ?_ ?_) | (with_reducible exact True.intro) | (with_reducible refine Flow.same_mk rfl rfl rfl ?_; go_simp; done) | (with_reducible exact Flow.same_un rfl rfl rfl) | (with_reducible refine Flow.region_flow (id := 6) [0, 0, 2, 0, 8, 24, 56, 0, 128, 504, 1023] 1024 1014 [(0, none), (1, none), (2, none), (3, none), (4, none), (5, none), (6, none), (7, none), (8, none), (9, none), (10, some [])] mixed ?hB ?_; (case hB => decide +kernel); simp only [Flow.textOf, List.map_cons, List.map_nil, Option.map_none, Option.map_some, Array.getD_eq_getD_getElem?, List.getElem?_toArray, List.getElem?_cons_zero, List.getElem?_cons_succ, Option.getD_some, Flow.wpFl, Flow.SameAll]) | (with_reducible refine Flow.region_flow (id := 8) [0, 0, 2, 0, 8, 0, 32, 96, 224, 0, 512, 2016, 0, 4096, 12288, 28672, 0, 65536, 258048, 524280, 1048575] 1572864 520158 [(0, none), (1, none), (2, none), (3, none), (4, none), (5, none), (6, none), (7, none), (8, none), (9, none), (10, none), (11, none), (12, none), (13, none), (14, none), (15, none), (16, none), (17, none), (18, none), (19, some [1, 2]), (20, some [])] mixed ?hB ?_; (case hB => decide +kernel); simp only [Flow.textOf, List.map_cons, List.map_nil, Option.map_none, Option.map_some, Array.getD_eq_getD_getElem?, List.getElem?_toArray, List.getElem?_cons_zero, List.getElem?_cons_succ, Option.getD_some, Flow.wpFl, Flow.SameAll]) | (with_reducible refine Flow.region_flow (id := 11) [0, 0, 2, 0, 8, 24, 56, 0, 128, 504, 1023] 1024 1014 [(0, none), (1, none), (2, none), (3, none), (4, none), (5, none), (6, none), (7, none), (8, none), (9, none), (10, some [])] mixed ?hB ?_; (case hB => decide +kernel); simp only [Flow.textOf, List.map_cons, List.map_nil, Option.map_none, Option.map_some, Array.getD_eq_getD_getElem?, List.getElem?_toArray, List.getElem?_cons_zero, List.getElem?_cons_succ, Option.getD_some, Flow.wpFl, Flow.SameAll]) | (with_reducible refine Flow.region_flow (id := 21) [0, 0, 2, 6, 14, 0, 32, 126, 255, 511] 512 508 [(0, none), (1, none), (2, none), (3, none), (4, none), (5, none), (6, none), (7, none), (8, none), (9, some [])] mixed ?hB ?_; (case hB => decide +kernel); simp only [Flow.textOf, List.map_cons, List.map_nil, Option.map_none, Option.map_some, Array.getD_eq_getD_getElem?, List.getElem?_toArray, List.getElem?_cons_zero, List.getElem?_cons_succ, Option.getD_some, Flow.wpFl, Flow.SameAll]) | (refine Flow.region_still mixed ?hB ?_; (case hB => decide +kernel)))
  go_at_call 25
  refine (set_is p.1 p.2 _ _ _ t.regs d 0 w1 K1.out K3.out).mono ?_
  rintro e w2 ⟨rfl, hm, hf⟩
  have h4 := regTh H3.out hp ht2 hm hf
  have hF4 := HF.out.trans (S := R) hf (fun k _ e => by rw [e]; exact hpR.2)
  have e4 : ({ m with ths := (m.ths.set i { t with at_ := wrap64 (t.at_ + 1) }).set i { t with at_ := wrap64 (t.at_ + 1), regs := if 0 ≤ d then updI t.regs d (some 0) else t.regs } } : M) = { m with ths := m.ths.set i (t.step.set d 0) } := by
    rw [List.set_set]
    unfold Th.step Th.set
    split <;> rfl
  have H4 := hid (e4 ▸ h4)
  have HF4 := hid hF4
  clear h4 hF4 hf hm e4
  go_wp2_with (first | fail | still_step | (with_reducible refine wpStill_nil ?_) | (with_reducible refine Flow.Both.mk ?_ ?_) | (with_reducible exact True.intro) | (with_reducible refine Flow.same_mk rfl rfl rfl ?_; go_simp; done) | (with_reducible exact Flow.same_un rfl rfl rfl) | (with_reducible refine Flow.region_flow (id := 6) [0, 0, 2, 0, 8, 24, 56, 0, 128, 504, 1023] 1024 1014 [(0, none), (1, none), (2, none), (3, none), (4, none), (5, none), (6, none), (7, none), (8, none), (9, none), (10, some [])] mixed ?hB ?_; (case hB => decide +kernel); simp only [Flow.textOf, List.map_cons, List.map_nil, Option.map_none, Option.map_some, Array.getD_eq_getD_getElem?, List.getElem?_toArray, List.getElem?_cons_zero, List.getElem?_cons_succ, Option.getD_some, Flow.wpFl, Flow.SameAll]) | (with_reducible refine Flow.region_flow (id := 8) [0, 0, 2, 0, 8, 0, 32, 96, 224, 0, 512, 2016, 0, 4096, 12288, 28672, 0, 65536, 258048, 524280, 1048575] 1572864 520158 [(0, none), (1, none), (2, none), (3, none), (4, none), (5, none), (6, none), (7, none), (8, none), (9, none), (10, none), (11, none), (12, none), (13, none), (14, none), (15, none), (16, none), (17, none), (18, none), (19, some [1, 2]), (20, some [])] mixed ?hB ?_; (case hB => decide +kernel); simp only [Flow.textOf, List.map_cons, List.map_nil, Option.map_none, Option.map_some, Array.getD_eq_getD_getElem?, List.getElem?_toArray, List.getElem?_cons_zero, List.getElem?_cons_succ, Option.getD_some, Flow.wpFl, Flow.SameAll]) | (with_reducible refine Flow.region_flow (id := 11) [0, 0, 2, 0, 8, 24, 56, 0, 128, 504, 1023] 1024 1014 [(0, none), (1, none), (2, none), (3, none), (4, none), (5, none), (6, none), (7, none), (8, none), (9, none), (10, some [])] mixed ?hB ?_; (case hB => decide +kernel); simp only [Flow.textOf, List.map_cons, List.map_nil, Option.map_none, Option.map_some, Array.getD_eq_getD_getElem?, List.getElem?_toArray, List.getElem?_cons_zero, List.getElem?_cons_succ, Option.getD_some, Flow.wpFl, Flow.SameAll]) | (with_reducible refine Flow.region_flow (id := 21) [0, 0, 2, 6, 14, 0, 32, 126, 255, 511] 512 508 [(0, none), (1, none), (2, none), (3, none), (4, none), (5, none), (6, none), (7, none), (8, none), (9, some [])] mixed ?hB ?_; (case hB => decide +kernel); simp only [Flow.textOf, List.map_cons, List.map_nil, Option.map_none, Option.map_some, Array.getD_eq_getD_getElem?, List.getElem?_toArray, List.getElem?_cons_zero, List.getElem?_cons_succ, Option.getD_some, Flow.wpFl, Flow.SameAll]) | (refine Flow.region_still mixed ?hB ?_; (case hB => decide +kernel)))
  go_end0
  exact ⟨rfl, H4.out, HF4.out⟩
set_option maxHeartbeats 2000000 in
theorem plain_load1 (B ob i : Nat) (R : Nat → Prop) (ids : List (Nat × Nat)) (m : M) (p : Nat × Nat) (t : Th) (op d a b n to : Int) (x : Nat) (hx : word m.mem t ⟨4, op, d, a, b, n, to⟩ = some x) (w : World) (h : RunRep w B R ids ob m) (hp : ids[i]? = some p) (ht : m.ths[i]? = some t) :
    Calls Try.prog 24 #[.pointer (some ⟨B, 0, none⟩), .pointer (some ⟨p.1, 0, none⟩), .agg (insC ⟨4, op, d, a, b, n, to⟩).toArray] w fun e w' => e = .returned (.tuple #[]) ∧ RunRep w' B R ids ob { m with ths := m.ths.set i (t.step.set d (m.mem.getD x 0)) } ∧ Fr R w w' := by
  have hpR := (h.inT p (List.mem_of_getElem? hp))
  obtain ⟨ca, cc, hb, ho, hm⟩ := h.ths i p t hp ht
  have b1 : w.cell? ⟨p.1, 1, none⟩ = some (.int .i64 t.at_) := (hb.cell 1).trans rfl
  have b2 : w.cell? ⟨p.1, 2, none⟩ = some (.map (some p.2)) := (hb.cell 2).trans rfl
  have f1 := hb.free 1
  have hlt := hb.lt
  have hs := stepTh h hp ht (wrap64 (t.at_ + 1))
  have hi : i < m.ths.length := (List.getElem?_eq_some_iff.1 ht).1
  have ht2 : (m.ths.set i { t with at_ := wrap64 (t.at_ + 1) })[i]? = some { t with at_ := wrap64 (t.at_ + 1) } := by simp [hi]
  clear hb ho hm
  obtain ⟨wb, hwb, hfb⟩ : ∃ wb, wb = ((w.setCell ⟨p.1, 1, none⟩ (.int .i64 (wrap64 (t.at_ + 1)))).alloc (.cells (insC ⟨4, op, d, a, b, n, to⟩).toArray 42)) ∧ Fr (fun _ => False) (w.setCell ⟨p.1, 1, none⟩ (.int .i64 (wrap64 (t.at_ + 1)))) wb := ⟨_, rfl, by (repeat' (first | with_reducible exact Fr.refl _ _ | with_reducible apply Fr.alloc | with_reducible apply Fr.drew | with_reducible apply Fr.drewN | (with_reducible refine Fr.setCell ?_ ?_ _)))⟩
  have h3 := hs.1.fr hfb (fun _ _ h => h)
  have hF := (hs.2.mono (S2 := R) (fun k _ e => by rw [e]; exact hpR.1)).trans hfb (fun k _ h => h.elim)
  obtain ⟨ca2, cc2, k1, k2, k3⟩ := h3.ths i p _ hp ht2
  have H3 := hid h3
  have HF := hid hF
  have K1 := hid k1
  have K3 := hid k3
  clear h3 hF k1 k2 k3 hfb
  obtain ⟨r, off, mc, hB, hcell, _, _, _, _⟩ := memCell H3.out (word_lt hx)
  have hbl := hs.1.head.choose_spec
  have hbx : Blk wb w.heap.size (insC ⟨4, op, d, a, b, n, to⟩).toArray 42 := by
    have := Blk.new (w.setCell ⟨p.1, 1, none⟩ (.int .i64 (wrap64 (t.at_ + 1)))) (insC ⟨4, op, d, a, b, n, to⟩).toArray 42
    rw [hwb]
    simpa using this
  have hw := word_is B p.1 p.2 (some ⟨r, off, none⟩) mc m.mem { t with at_ := wrap64 (t.at_ + 1) } ⟨4, op, d, a, b, n, to⟩ wb hB (.inr ⟨r, off, rfl⟩) ((K1.out.cell 2).trans rfl) K3.out
  rw [show word m.mem { t with at_ := wrap64 (t.at_ + 1) } ⟨4, op, d, a, b, n, to⟩ = some x from hx] at hw
  clear h hs hbl
  dsimp only [insC] at *
  go_enter Try.func24, Try.ntmps24
  go_wp2_with (first | fail | still_step | (with_reducible refine wpStill_nil ?_) | (with_reducible refine Flow.Both.mk ?_ ?_) | (with_reducible exact True.intro) | (with_reducible refine Flow.same_mk rfl rfl rfl ?_; go_simp; done) | (with_reducible exact Flow.same_un rfl rfl rfl) | (with_reducible refine Flow.region_flow (id := 6) [0, 0, 2, 0, 8, 24, 56, 0, 128, 504, 1023] 1024 1014 [(0, none), (1, none), (2, none), (3, none), (4, none), (5, none), (6, none), (7, none), (8, none), (9, none), (10, some [])] mixed ?hB ?_; (case hB => decide +kernel); simp only [Flow.textOf, List.map_cons, List.map_nil, Option.map_none, Option.map_some, Array.getD_eq_getD_getElem?, List.getElem?_toArray, List.getElem?_cons_zero, List.getElem?_cons_succ, Option.getD_some, Flow.wpFl, Flow.SameAll]) | (with_reducible refine Flow.region_flow (id := 8) [0, 0, 2, 0, 8, 0, 32, 96, 224, 0, 512, 2016, 0, 4096, 12288, 28672, 0, 65536, 258048, 524280, 1048575] 1572864 520158 [(0, none), (1, none), (2, none), (3, none), (4, none), (5, none), (6, none), (7, none), (8, none), (9, none), (10, none), (11, none), (12, none), (13, none), (14, none), (15, none), (16, none), (17, none), (18, none), (19, some [1, 2]), (20, some [])] mixed ?hB ?_; (case hB => decide +kernel); simp only [Flow.textOf, List.map_cons, List.map_nil, Option.map_none, Option.map_some, Array.getD_eq_getD_getElem?, List.getElem?_toArray, List.getElem?_cons_zero, List.getElem?_cons_succ, Option.getD_some, Flow.wpFl, Flow.SameAll]) | (with_reducible refine Flow.region_flow (id := 11) [0, 0, 2, 0, 8, 24, 56, 0, 128, 504, 1023] 1024 1014 [(0, none), (1, none), (2, none), (3, none), (4, none), (5, none), (6, none), (7, none), (8, none), (9, none), (10, some [])] mixed ?hB ?_; (case hB => decide +kernel); simp only [Flow.textOf, List.map_cons, List.map_nil, Option.map_none, Option.map_some, Array.getD_eq_getD_getElem?, List.getElem?_toArray, List.getElem?_cons_zero, List.getElem?_cons_succ, Option.getD_some, Flow.wpFl, Flow.SameAll]) | (with_reducible refine Flow.region_flow (id := 21) [0, 0, 2, 6, 14, 0, 32, 126, 255, 511] 512 508 [(0, none), (1, none), (2, none), (3, none), (4, none), (5, none), (6, none), (7, none), (8, none), (9, some [])] mixed ?hB ?_; (case hB => decide +kernel); simp only [Flow.textOf, List.map_cons, List.map_nil, Option.map_none, Option.map_some, Array.getD_eq_getD_getElem?, List.getElem?_toArray, List.getElem?_cons_zero, List.getElem?_cons_succ, Option.getD_some, Flow.wpFl, Flow.SameAll]) | (refine Flow.region_still mixed ?hB ?_; (case hB => decide +kernel)))
  rw [← hwb]
  go_at_call 27
  refine hw.mono ?_
  rintro e w1 ⟨rfl, hf1⟩
  have hcell1 := hf1.cell hcell (fun h => h)
  have H3' := hid (H3.out.fr hf1 (fun _ _ h => h))
  have HF' := hid (HF.out.trans hf1 (fun k _ h => h.elim))
  have K1' := hid (K1.out.fr hf1 (fun h => h))
  have K3' := hid (K3.out.fr hf1 (fun h => h))
  clear H3 HF K1 K3
  have H3 := hid H3'.out
  have HF := hid HF'.out
  have K1 := hid K1'.out
  have K3 := hid K3'.out
  clear H3' HF' K1' K3'
  have x2 : World.cell? w1 ⟨w.heap.size, 2, none⟩ = some (.int .i64 d) := ((hbx.fr hf1 (fun h => h)).cell 2).trans rfl
  have x1 : World.cell? w1 ⟨w.heap.size, 1, none⟩ = some (.int .i64 op) := ((hbx.fr hf1 (fun h => h)).cell 1).trans rfl
  have x3 : World.cell? w1 ⟨w.heap.size, 3, none⟩ = some (.int .i64 a) := ((hbx.fr hf1 (fun h => h)).cell 3).trans rfl
  have x4 : World.cell? w1 ⟨w.heap.size, 4, none⟩ = some (.int .i64 b) := ((hbx.fr hf1 (fun h => h)).cell 4).trans rfl
  have y2 : World.cell? w1 ⟨p.1, 2, none⟩ = some (.map (some p.2)) := (K1.out.cell 2).trans rfl
  clear hf1
  dsimp only [wordPtr] at *
  go_wp2_with (first | fail | still_step | (with_reducible refine wpStill_nil ?_) | (with_reducible refine Flow.Both.mk ?_ ?_) | (with_reducible exact True.intro) | (with_reducible refine Flow.same_mk rfl rfl rfl ?_; go_simp; done) | (with_reducible exact Flow.same_un rfl rfl rfl) | (with_reducible refine Flow.region_flow (id := 6) [0, 0, 2, 0, 8, 24, 56, 0, 128, 504, 1023] 1024 1014 [(0, none), (1, none), (2, none), (3, none), (4, none), (5, none), (6, none), (7, none), (8, none), (9, none), (10, some [])] mixed ?hB ?_; (case hB => decide +kernel); simp only [Flow.textOf, List.map_cons, List.map_nil, Option.map_none, Option.map_some, Array.getD_eq_getD_getElem?, List.getElem?_toArray, List.getElem?_cons_zero, List.getElem?_cons_succ, Option.getD_some, Flow.wpFl, Flow.SameAll]) | (with_reducible refine Flow.region_flow (id := 8) [0, 0, 2, 0, 8, 0, 32, 96, 224, 0, 512, 2016, 0, 4096, 12288, 28672, 0, 65536, 258048, 524280, 1048575] 1572864 520158 [(0, none), (1, none), (2, none), (3, none), (4, none), (5, none), (6, none), (7, none), (8, none), (9, none), (10, none), (11, none), (12, none), (13, none), (14, none), (15, none), (16, none), (17, none), (18, none), (19, some [1, 2]), (20, some [])] mixed ?hB ?_; (case hB => decide +kernel); simp only [Flow.textOf, List.map_cons, List.map_nil, Option.map_none, Option.map_some, Array.getD_eq_getD_getElem?, List.getElem?_toArray, List.getElem?_cons_zero, List.getElem?_cons_succ, Option.getD_some, Flow.wpFl, Flow.SameAll]) | (with_reducible refine Flow.region_flow (id := 11) [0, 0, 2, 0, 8, 24, 56, 0, 128, 504, 1023] 1024 1014 [(0, none), (1, none), (2, none), (3, none), (4, none), (5, none), (6, none), (7, none), (8, none), (9, none), (10, some [])] mixed ?hB ?_; (case hB => decide +kernel); simp only [Flow.textOf, List.map_cons, List.map_nil, Option.map_none, Option.map_some, Array.getD_eq_getD_getElem?, List.getElem?_toArray, List.getElem?_cons_zero, List.getElem?_cons_succ, Option.getD_some, Flow.wpFl, Flow.SameAll]) | (with_reducible refine Flow.region_flow (id := 21) [0, 0, 2, 6, 14, 0, 32, 126, 255, 511] 512 508 [(0, none), (1, none), (2, none), (3, none), (4, none), (5, none), (6, none), (7, none), (8, none), (9, some [])] mixed ?hB ?_; (case hB => decide +kernel); simp only [Flow.textOf, List.map_cons, List.map_nil, Option.map_none, Option.map_some, Array.getD_eq_getD_getElem?, List.getElem?_toArray, List.getElem?_cons_zero, List.getElem?_cons_succ, Option.getD_some, Flow.wpFl, Flow.SameAll]) | (refine Flow.region_still mixed ?hB ?_; (case hB => decide +kernel)))
  go_at_call 25
  refine (set_is p.1 p.2 _ _ _ t.regs d (m.mem.getD x 0) w1 K1.out K3.out).mono ?_
  rintro e w2 ⟨rfl, hm, hf⟩
  have h4 := regTh H3.out hp ht2 hm hf
  have hF4 := HF.out.trans (S := R) hf (fun k _ e => by rw [e]; exact hpR.2)
  have e4 : ({ m with ths := (m.ths.set i { t with at_ := wrap64 (t.at_ + 1) }).set i { t with at_ := wrap64 (t.at_ + 1), regs := if 0 ≤ d then updI t.regs d (some (m.mem.getD x 0)) else t.regs } } : M) = { m with ths := m.ths.set i (t.step.set d (m.mem.getD x 0)) } := by
    rw [List.set_set]
    unfold Th.step Th.set
    split <;> rfl
  have H4 := hid (e4 ▸ h4)
  have HF4 := hid hF4
  clear h4 hF4 hf hm e4
  go_wp2_with (first | fail | still_step | (with_reducible refine wpStill_nil ?_) | (with_reducible refine Flow.Both.mk ?_ ?_) | (with_reducible exact True.intro) | (with_reducible refine Flow.same_mk rfl rfl rfl ?_; go_simp; done) | (with_reducible exact Flow.same_un rfl rfl rfl) | (with_reducible refine Flow.region_flow (id := 6) [0, 0, 2, 0, 8, 24, 56, 0, 128, 504, 1023] 1024 1014 [(0, none), (1, none), (2, none), (3, none), (4, none), (5, none), (6, none), (7, none), (8, none), (9, none), (10, some [])] mixed ?hB ?_; (case hB => decide +kernel); simp only [Flow.textOf, List.map_cons, List.map_nil, Option.map_none, Option.map_some, Array.getD_eq_getD_getElem?, List.getElem?_toArray, List.getElem?_cons_zero, List.getElem?_cons_succ, Option.getD_some, Flow.wpFl, Flow.SameAll]) | (with_reducible refine Flow.region_flow (id := 8) [0, 0, 2, 0, 8, 0, 32, 96, 224, 0, 512, 2016, 0, 4096, 12288, 28672, 0, 65536, 258048, 524280, 1048575] 1572864 520158 [(0, none), (1, none), (2, none), (3, none), (4, none), (5, none), (6, none), (7, none), (8, none), (9, none), (10, none), (11, none), (12, none), (13, none), (14, none), (15, none), (16, none), (17, none), (18, none), (19, some [1, 2]), (20, some [])] mixed ?hB ?_; (case hB => decide +kernel); simp only [Flow.textOf, List.map_cons, List.map_nil, Option.map_none, Option.map_some, Array.getD_eq_getD_getElem?, List.getElem?_toArray, List.getElem?_cons_zero, List.getElem?_cons_succ, Option.getD_some, Flow.wpFl, Flow.SameAll]) | (with_reducible refine Flow.region_flow (id := 11) [0, 0, 2, 0, 8, 24, 56, 0, 128, 504, 1023] 1024 1014 [(0, none), (1, none), (2, none), (3, none), (4, none), (5, none), (6, none), (7, none), (8, none), (9, none), (10, some [])] mixed ?hB ?_; (case hB => decide +kernel); simp only [Flow.textOf, List.map_cons, List.map_nil, Option.map_none, Option.map_some, Array.getD_eq_getD_getElem?, List.getElem?_toArray, List.getElem?_cons_zero, List.getElem?_cons_succ, Option.getD_some, Flow.wpFl, Flow.SameAll]) | (with_reducible refine Flow.region_flow (id := 21) [0, 0, 2, 6, 14, 0, 32, 126, 255, 511] 512 508 [(0, none), (1, none), (2, none), (3, none), (4, none), (5, none), (6, none), (7, none), (8, none), (9, some [])] mixed ?hB ?_; (case hB => decide +kernel); simp only [Flow.textOf, List.map_cons, List.map_nil, Option.map_none, Option.map_some, Array.getD_eq_getD_getElem?, List.getElem?_toArray, List.getElem?_cons_zero, List.getElem?_cons_succ, Option.getD_some, Flow.wpFl, Flow.SameAll]) | (refine Flow.region_still mixed ?hB ?_; (case hB => decide +kernel)))
  go_end0
  exact ⟨rfl, H4.out, HF4.out⟩
set_option maxHeartbeats 2000000 in
theorem plain_store0 (B ob i : Nat) (R : Nat → Prop) (ids : List (Nat × Nat)) (m : M) (p : Nat × Nat) (t : Th) (op d a b n to : Int) (hx : word m.mem t ⟨5, op, d, a, b, n, to⟩ = none) (w : World) (h : RunRep w B R ids ob m) (hp : ids[i]? = some p) (ht : m.ths[i]? = some t) :
    Calls Try.prog 24 #[.pointer (some ⟨B, 0, none⟩), .pointer (some ⟨p.1, 0, none⟩), .agg (insC ⟨5, op, d, a, b, n, to⟩).toArray] w fun e w' => e = .returned (.tuple #[]) ∧ RunRep w' B R ids ob { m with ths := m.ths.set i t.step } ∧ Fr R w w' := by
  have hpR := (h.inT p (List.mem_of_getElem? hp))
  obtain ⟨ca, cc, hb, ho, hm⟩ := h.ths i p t hp ht
  have b1 : w.cell? ⟨p.1, 1, none⟩ = some (.int .i64 t.at_) := (hb.cell 1).trans rfl
  have b2 : w.cell? ⟨p.1, 2, none⟩ = some (.map (some p.2)) := (hb.cell 2).trans rfl
  have f1 := hb.free 1
  have hlt := hb.lt
  have hs := stepTh h hp ht (wrap64 (t.at_ + 1))
  have hi : i < m.ths.length := (List.getElem?_eq_some_iff.1 ht).1
  have ht2 : (m.ths.set i { t with at_ := wrap64 (t.at_ + 1) })[i]? = some { t with at_ := wrap64 (t.at_ + 1) } := by simp [hi]
  clear hb ho hm
  obtain ⟨wb, hwb, hfb⟩ : ∃ wb, wb = ((w.setCell ⟨p.1, 1, none⟩ (.int .i64 (wrap64 (t.at_ + 1)))).alloc (.cells (insC ⟨5, op, d, a, b, n, to⟩).toArray 42)) ∧ Fr (fun _ => False) (w.setCell ⟨p.1, 1, none⟩ (.int .i64 (wrap64 (t.at_ + 1)))) wb := ⟨_, rfl, by (repeat' (first | with_reducible exact Fr.refl _ _ | with_reducible apply Fr.alloc | with_reducible apply Fr.drew | with_reducible apply Fr.drewN | (with_reducible refine Fr.setCell ?_ ?_ _)))⟩
  have h3 := hs.1.fr hfb (fun _ _ h => h)
  have hF := (hs.2.mono (S2 := R) (fun k _ e => by rw [e]; exact hpR.1)).trans hfb (fun k _ h => h.elim)
  obtain ⟨ca2, cc2, k1, k2, k3⟩ := h3.ths i p _ hp ht2
  have H3 := hid h3
  have HF := hid hF
  have K1 := hid k1
  have K3 := hid k3
  clear h3 hF k1 k2 k3 hfb
  obtain ⟨ta, tc, ma, mc, hB0, _, hmm⟩ := H3.out.head
  have hB : wb.cell? ⟨B, 1, none⟩ = some (.slice ma m.mem.length mc) := (hB0.cell 1).trans rfl
  have hbx : Blk wb w.heap.size (insC ⟨5, op, d, a, b, n, to⟩).toArray 42 := by
    have := Blk.new (w.setCell ⟨p.1, 1, none⟩ (.int .i64 (wrap64 (t.at_ + 1)))) (insC ⟨5, op, d, a, b, n, to⟩).toArray 42
    rw [hwb]
    simpa using this
  have hw := word_is B p.1 p.2 ma mc m.mem { t with at_ := wrap64 (t.at_ + 1) } ⟨5, op, d, a, b, n, to⟩ wb hB (ownPtr hmm) ((K1.out.cell 2).trans rfl) K3.out
  rw [show word m.mem { t with at_ := wrap64 (t.at_ + 1) } ⟨5, op, d, a, b, n, to⟩ = none from hx] at hw
  rw [show wordPtr ma none = none by cases ma <;> rfl] at hw
  clear h hs
  dsimp only [insC] at *
  go_enter Try.func24, Try.ntmps24
  go_wp2_with (first | fail | still_step | (with_reducible refine wpStill_nil ?_) | (with_reducible refine Flow.Both.mk ?_ ?_) | (with_reducible exact True.intro) | (with_reducible refine Flow.same_mk rfl rfl rfl ?_; go_simp; done) | (with_reducible exact Flow.same_un rfl rfl rfl) | (with_reducible refine Flow.region_flow (id := 6) [0, 0, 2, 0, 8, 24, 56, 0, 128, 504, 1023] 1024 1014 [(0, none), (1, none), (2, none), (3, none), (4, none), (5, none), (6, none), (7, none), (8, none), (9, none), (10, some [])] mixed ?hB ?_; (case hB => decide +kernel); simp only [Flow.textOf, List.map_cons, List.map_nil, Option.map_none, Option.map_some, Array.getD_eq_getD_getElem?, List.getElem?_toArray, List.getElem?_cons_zero, List.getElem?_cons_succ, Option.getD_some, Flow.wpFl, Flow.SameAll]) | (with_reducible refine Flow.region_flow (id := 8) [0, 0, 2, 0, 8, 0, 32, 96, 224, 0, 512, 2016, 0, 4096, 12288, 28672, 0, 65536, 258048, 524280, 1048575] 1572864 520158 [(0, none), (1, none), (2, none), (3, none), (4, none), (5, none), (6, none), (7, none), (8, none), (9, none), (10, none), (11, none), (12, none), (13, none), (14, none), (15, none), (16, none), (17, none), (18, none), (19, some [1, 2]), (20, some [])] mixed ?hB ?_; (case hB => decide +kernel); simp only [Flow.textOf, List.map_cons, List.map_nil, Option.map_none, Option.map_some, Array.getD_eq_getD_getElem?, List.getElem?_toArray, List.getElem?_cons_zero, List.getElem?_cons_succ, Option.getD_some, Flow.wpFl, Flow.SameAll]) | (with_reducible refine Flow.region_flow (id := 11) [0, 0, 2, 0, 8, 24, 56, 0, 128, 504, 1023] 1024 1014 [(0, none), (1, none), (2, none), (3, none), (4, none), (5, none), (6, none), (7, none), (8, none), (9, none), (10, some [])] mixed ?hB ?_; (case hB => decide +kernel); simp only [Flow.textOf, List.map_cons, List.map_nil, Option.map_none, Option.map_some, Array.getD_eq_getD_getElem?, List.getElem?_toArray, List.getElem?_cons_zero, List.getElem?_cons_succ, Option.getD_some, Flow.wpFl, Flow.SameAll]) | (with_reducible refine Flow.region_flow (id := 21) [0, 0, 2, 6, 14, 0, 32, 126, 255, 511] 512 508 [(0, none), (1, none), (2, none), (3, none), (4, none), (5, none), (6, none), (7, none), (8, none), (9, some [])] mixed ?hB ?_; (case hB => decide +kernel); simp only [Flow.textOf, List.map_cons, List.map_nil, Option.map_none, Option.map_some, Array.getD_eq_getD_getElem?, List.getElem?_toArray, List.getElem?_cons_zero, List.getElem?_cons_succ, Option.getD_some, Flow.wpFl, Flow.SameAll]) | (refine Flow.region_still mixed ?hB ?_; (case hB => decide +kernel)))
  rw [← hwb]
  go_at_call 27
  refine hw.mono ?_
  rintro e w1 ⟨rfl, hf1⟩
  have H3' := hid (H3.out.fr hf1 (fun _ _ h => h))
  have HF' := hid (HF.out.trans hf1 (fun k _ h => h.elim))
  have K1' := hid (K1.out.fr hf1 (fun h => h))
  have K3' := hid (K3.out.fr hf1 (fun h => h))
  clear H3 HF K1 K3
  have H3 := hid H3'.out
  have HF := hid HF'.out
  have K1 := hid K1'.out
  have K3 := hid K3'.out
  clear H3' HF' K1' K3'
  clear hf1
  go_wp2_with (first | fail | still_step | (with_reducible refine wpStill_nil ?_) | (with_reducible refine Flow.Both.mk ?_ ?_) | (with_reducible exact True.intro) | (with_reducible refine Flow.same_mk rfl rfl rfl ?_; go_simp; done) | (with_reducible exact Flow.same_un rfl rfl rfl) | (with_reducible refine Flow.region_flow (id := 6) [0, 0, 2, 0, 8, 24, 56, 0, 128, 504, 1023] 1024 1014 [(0, none), (1, none), (2, none), (3, none), (4, none), (5, none), (6, none), (7, none), (8, none), (9, none), (10, some [])] mixed ?hB ?_; (case hB => decide +kernel); simp only [Flow.textOf, List.map_cons, List.map_nil, Option.map_none, Option.map_some, Array.getD_eq_getD_getElem?, List.getElem?_toArray, List.getElem?_cons_zero, List.getElem?_cons_succ, Option.getD_some, Flow.wpFl, Flow.SameAll]) | (with_reducible refine Flow.region_flow (id := 8) [0, 0, 2, 0, 8, 0, 32, 96, 224, 0, 512, 2016, 0, 4096, 12288, 28672, 0, 65536, 258048, 524280, 1048575] 1572864 520158 [(0, none), (1, none), (2, none), (3, none), (4, none), (5, none), (6, none), (7, none), (8, none), (9, none), (10, none), (11, none), (12, none), (13, none), (14, none), (15, none), (16, none), (17, none), (18, none), (19, some [1, 2]), (20, some [])] mixed ?hB ?_; (case hB => decide +kernel); simp only [Flow.textOf, List.map_cons, List.map_nil, Option.map_none, Option.map_some, Array.getD_eq_getD_getElem?, List.getElem?_toArray, List.getElem?_cons_zero, List.getElem?_cons_succ, Option.getD_some, Flow.wpFl, Flow.SameAll]) | (with_reducible refine Flow.region_flow (id := 11) [0, 0, 2, 0, 8, 24, 56, 0, 128, 504, 1023] 1024 1014 [(0, none), (1, none), (2, none), (3, none), (4, none), (5, none), (6, none), (7, none), (8, none), (9, none), (10, some [])] mixed ?hB ?_; (case hB => decide +kernel); simp only [Flow.textOf, List.map_cons, List.map_nil, Option.map_none, Option.map_some, Array.getD_eq_getD_getElem?, List.getElem?_toArray, List.getElem?_cons_zero, List.getElem?_cons_succ, Option.getD_some, Flow.wpFl, Flow.SameAll]) | (with_reducible refine Flow.region_flow (id := 21) [0, 0, 2, 6, 14, 0, 32, 126, 255, 511] 512 508 [(0, none), (1, none), (2, none), (3, none), (4, none), (5, none), (6, none), (7, none), (8, none), (9, some [])] mixed ?hB ?_; (case hB => decide +kernel); simp only [Flow.textOf, List.map_cons, List.map_nil, Option.map_none, Option.map_some, Array.getD_eq_getD_getElem?, List.getElem?_toArray, List.getElem?_cons_zero, List.getElem?_cons_succ, Option.getD_some, Flow.wpFl, Flow.SameAll]) | (refine Flow.region_still mixed ?hB ?_; (case hB => decide +kernel)))
  go_end0
  exact ⟨rfl, H3.out, HF.out⟩
set_option maxHeartbeats 2000000 in
theorem plain_store1 (B ob i : Nat) (R : Nat → Prop) (ids : List (Nat × Nat)) (m : M) (p : Nat × Nat) (t : Th) (op d a b n to : Int) (x : Nat) (hx : word m.mem t ⟨5, op, d, a, b, n, to⟩ = some x) (w : World) (h : RunRep w B R ids ob m) (hp : ids[i]? = some p) (ht : m.ths[i]? = some t) :
    Calls Try.prog 24 #[.pointer (some ⟨B, 0, none⟩), .pointer (some ⟨p.1, 0, none⟩), .agg (insC ⟨5, op, d, a, b, n, to⟩).toArray] w fun e w' => e = .returned (.tuple #[]) ∧ RunRep w' B R ids ob ⟨m.ths.set i t.step, m.mem.set x (t.get b), m.owner⟩ ∧ Fr R w w' := by
  have hpR := (h.inT p (List.mem_of_getElem? hp))
  obtain ⟨ca, cc, hb, ho, hm⟩ := h.ths i p t hp ht
  have b1 : w.cell? ⟨p.1, 1, none⟩ = some (.int .i64 t.at_) := (hb.cell 1).trans rfl
  have b2 : w.cell? ⟨p.1, 2, none⟩ = some (.map (some p.2)) := (hb.cell 2).trans rfl
  have f1 := hb.free 1
  have hlt := hb.lt
  have hs := stepTh h hp ht (wrap64 (t.at_ + 1))
  have hi : i < m.ths.length := (List.getElem?_eq_some_iff.1 ht).1
  have ht2 : (m.ths.set i { t with at_ := wrap64 (t.at_ + 1) })[i]? = some { t with at_ := wrap64 (t.at_ + 1) } := by simp [hi]
  clear hb ho hm
  obtain ⟨wb, hwb, hfb⟩ : ∃ wb, wb = ((w.setCell ⟨p.1, 1, none⟩ (.int .i64 (wrap64 (t.at_ + 1)))).alloc (.cells (insC ⟨5, op, d, a, b, n, to⟩).toArray 42)) ∧ Fr (fun _ => False) (w.setCell ⟨p.1, 1, none⟩ (.int .i64 (wrap64 (t.at_ + 1)))) wb := ⟨_, rfl, by (repeat' (first | with_reducible exact Fr.refl _ _ | with_reducible apply Fr.alloc | with_reducible apply Fr.drew | with_reducible apply Fr.drewN | (with_reducible refine Fr.setCell ?_ ?_ _)))⟩
  have h3 := hs.1.fr hfb (fun _ _ h => h)
  have hF := (hs.2.mono (S2 := R) (fun k _ e => by rw [e]; exact hpR.1)).trans hfb (fun k _ h => h.elim)
  obtain ⟨ca2, cc2, k1, k2, k3⟩ := h3.ths i p _ hp ht2
  have H3 := hid h3
  have HF := hid hF
  have K1 := hid k1
  have K3 := hid k3
  clear h3 hF k1 k2 k3 hfb
  obtain ⟨r, off, mc, hB, hcell, hfz, hrR, _, hst⟩ := memCell H3.out (word_lt hx)
  have hbx : Blk wb w.heap.size (insC ⟨5, op, d, a, b, n, to⟩).toArray 42 := by
    have := Blk.new (w.setCell ⟨p.1, 1, none⟩ (.int .i64 (wrap64 (t.at_ + 1)))) (insC ⟨5, op, d, a, b, n, to⟩).toArray 42
    rw [hwb]
    simpa using this
  have hw := word_is B p.1 p.2 (some ⟨r, off, none⟩) mc m.mem { t with at_ := wrap64 (t.at_ + 1) } ⟨5, op, d, a, b, n, to⟩ wb hB (.inr ⟨r, off, rfl⟩) ((K1.out.cell 2).trans rfl) K3.out
  rw [show word m.mem { t with at_ := wrap64 (t.at_ + 1) } ⟨5, op, d, a, b, n, to⟩ = some x from hx] at hw
  clear h hs hst hfz
  dsimp only [insC] at *
  go_enter Try.func24, Try.ntmps24
  go_wp2_with (first | fail | still_step | (with_reducible refine wpStill_nil ?_) | (with_reducible refine Flow.Both.mk ?_ ?_) | (with_reducible exact True.intro) | (with_reducible refine Flow.same_mk rfl rfl rfl ?_; go_simp; done) | (with_reducible exact Flow.same_un rfl rfl rfl) | (with_reducible refine Flow.region_flow (id := 6) [0, 0, 2, 0, 8, 24, 56, 0, 128, 504, 1023] 1024 1014 [(0, none), (1, none), (2, none), (3, none), (4, none), (5, none), (6, none), (7, none), (8, none), (9, none), (10, some [])] mixed ?hB ?_; (case hB => decide +kernel); simp only [Flow.textOf, List.map_cons, List.map_nil, Option.map_none, Option.map_some, Array.getD_eq_getD_getElem?, List.getElem?_toArray, List.getElem?_cons_zero, List.getElem?_cons_succ, Option.getD_some, Flow.wpFl, Flow.SameAll]) | (with_reducible refine Flow.region_flow (id := 8) [0, 0, 2, 0, 8, 0, 32, 96, 224, 0, 512, 2016, 0, 4096, 12288, 28672, 0, 65536, 258048, 524280, 1048575] 1572864 520158 [(0, none), (1, none), (2, none), (3, none), (4, none), (5, none), (6, none), (7, none), (8, none), (9, none), (10, none), (11, none), (12, none), (13, none), (14, none), (15, none), (16, none), (17, none), (18, none), (19, some [1, 2]), (20, some [])] mixed ?hB ?_; (case hB => decide +kernel); simp only [Flow.textOf, List.map_cons, List.map_nil, Option.map_none, Option.map_some, Array.getD_eq_getD_getElem?, List.getElem?_toArray, List.getElem?_cons_zero, List.getElem?_cons_succ, Option.getD_some, Flow.wpFl, Flow.SameAll]) | (with_reducible refine Flow.region_flow (id := 11) [0, 0, 2, 0, 8, 24, 56, 0, 128, 504, 1023] 1024 1014 [(0, none), (1, none), (2, none), (3, none), (4, none), (5, none), (6, none), (7, none), (8, none), (9, none), (10, some [])] mixed ?hB ?_; (case hB => decide +kernel); simp only [Flow.textOf, List.map_cons, List.map_nil, Option.map_none, Option.map_some, Array.getD_eq_getD_getElem?, List.getElem?_toArray, List.getElem?_cons_zero, List.getElem?_cons_succ, Option.getD_some, Flow.wpFl, Flow.SameAll]) | (with_reducible refine Flow.region_flow (id := 21) [0, 0, 2, 6, 14, 0, 32, 126, 255, 511] 512 508 [(0, none), (1, none), (2, none), (3, none), (4, none), (5, none), (6, none), (7, none), (8, none), (9, some [])] mixed ?hB ?_; (case hB => decide +kernel); simp only [Flow.textOf, List.map_cons, List.map_nil, Option.map_none, Option.map_some, Array.getD_eq_getD_getElem?, List.getElem?_toArray, List.getElem?_cons_zero, List.getElem?_cons_succ, Option.getD_some, Flow.wpFl, Flow.SameAll]) | (refine Flow.region_still mixed ?hB ?_; (case hB => decide +kernel)))
  rw [← hwb]
  go_at_call 27
  refine hw.mono ?_
  rintro e w1 ⟨rfl, hf1⟩
  have hcell1 := hf1.cell hcell (fun h => h)
  have H3' := hid (H3.out.fr hf1 (fun _ _ h => h))
  have HF' := hid (HF.out.trans hf1 (fun k _ h => h.elim))
  have K1' := hid (K1.out.fr hf1 (fun h => h))
  have K3' := hid (K3.out.fr hf1 (fun h => h))
  clear H3 HF K1 K3
  have H3 := hid H3'.out
  have HF := hid HF'.out
  have K1 := hid K1'.out
  have K3 := hid K3'.out
  clear H3' HF' K1' K3'
  have x2 : World.cell? w1 ⟨w.heap.size, 2, none⟩ = some (.int .i64 d) := ((hbx.fr hf1 (fun h => h)).cell 2).trans rfl
  have x1 : World.cell? w1 ⟨w.heap.size, 1, none⟩ = some (.int .i64 op) := ((hbx.fr hf1 (fun h => h)).cell 1).trans rfl
  have x3 : World.cell? w1 ⟨w.heap.size, 3, none⟩ = some (.int .i64 a) := ((hbx.fr hf1 (fun h => h)).cell 3).trans rfl
  have x4 : World.cell? w1 ⟨w.heap.size, 4, none⟩ = some (.int .i64 b) := ((hbx.fr hf1 (fun h => h)).cell 4).trans rfl
  have y2 : World.cell? w1 ⟨p.1, 2, none⟩ = some (.map (some p.2)) := (K1.out.cell 2).trans rfl
  obtain ⟨r', off', mc', hB', _, hfz, _, _, hst⟩ := memCell H3.out (word_lt hx)
  rw [show w1.cell? ⟨B, 1, none⟩ = _ from hf1.cell hB (fun h => h)] at hB'
  simp only [Option.some.injEq, Value.slice.injEq, Addr.mk.injEq, and_true] at hB'
  obtain ⟨⟨rfl, rfl⟩, _, _⟩ := hB'
  have HST := hid (hst (t.get b))
  obtain ⟨wc, hwc⟩ : ∃ wc, wc = w1.drew := ⟨_, rfl⟩
  have hf2 : Fr (fun _ => False) w1 wc := by rw [hwc]; (repeat' (first | with_reducible exact Fr.refl _ _ | with_reducible apply Fr.alloc | with_reducible apply Fr.drew | with_reducible apply Fr.drewN | (with_reducible refine Fr.setCell ?_ ?_ _)))
  have HF1 := hid HF.out
  have H3' := hid (H3.out.fr hf2 (fun _ _ h => h))
  have HF' := hid (HF.out.trans hf2 (fun k _ h => h.elim))
  have K1' := hid (K1.out.fr hf2 (fun h => h))
  have K3' := hid (K3.out.fr hf2 (fun h => h))
  clear H3 HF K1 K3
  have H3 := hid H3'.out
  have HF := hid HF'.out
  have K1 := hid K1'.out
  have K3 := hid K3'.out
  clear H3' HF' K1' K3'
  have hl2 := run_look under_regs under_int K3.out b (run_zero zero_i64 wc) false
  have hz : ((regC t.regs) b).getD (.int .i64 0) = .int .i64 (t.get b) := by unfold regC Th.get; cases t.regs b <;> rfl
  simp only [hz, Bool.false_eq_true, if_false] at hl2
  clear hz
  rw [hwc] at hl2
  clear hf1 hf2 hst hw
  dsimp only [wordPtr] at *
  go_wp2_with (first | fail | still_step | (with_reducible refine wpStill_nil ?_) | (with_reducible refine Flow.Both.mk ?_ ?_) | (with_reducible exact True.intro) | (with_reducible refine Flow.same_mk rfl rfl rfl ?_; go_simp; done) | (with_reducible exact Flow.same_un rfl rfl rfl) | (with_reducible refine Flow.region_flow (id := 6) [0, 0, 2, 0, 8, 24, 56, 0, 128, 504, 1023] 1024 1014 [(0, none), (1, none), (2, none), (3, none), (4, none), (5, none), (6, none), (7, none), (8, none), (9, none), (10, some [])] mixed ?hB ?_; (case hB => decide +kernel); simp only [Flow.textOf, List.map_cons, List.map_nil, Option.map_none, Option.map_some, Array.getD_eq_getD_getElem?, List.getElem?_toArray, List.getElem?_cons_zero, List.getElem?_cons_succ, Option.getD_some, Flow.wpFl, Flow.SameAll]) | (with_reducible refine Flow.region_flow (id := 8) [0, 0, 2, 0, 8, 0, 32, 96, 224, 0, 512, 2016, 0, 4096, 12288, 28672, 0, 65536, 258048, 524280, 1048575] 1572864 520158 [(0, none), (1, none), (2, none), (3, none), (4, none), (5, none), (6, none), (7, none), (8, none), (9, none), (10, none), (11, none), (12, none), (13, none), (14, none), (15, none), (16, none), (17, none), (18, none), (19, some [1, 2]), (20, some [])] mixed ?hB ?_; (case hB => decide +kernel); simp only [Flow.textOf, List.map_cons, List.map_nil, Option.map_none, Option.map_some, Array.getD_eq_getD_getElem?, List.getElem?_toArray, List.getElem?_cons_zero, List.getElem?_cons_succ, Option.getD_some, Flow.wpFl, Flow.SameAll]) | (with_reducible refine Flow.region_flow (id := 11) [0, 0, 2, 0, 8, 24, 56, 0, 128, 504, 1023] 1024 1014 [(0, none), (1, none), (2, none), (3, none), (4, none), (5, none), (6, none), (7, none), (8, none), (9, none), (10, some [])] mixed ?hB ?_; (case hB => decide +kernel); simp only [Flow.textOf, List.map_cons, List.map_nil, Option.map_none, Option.map_some, Array.getD_eq_getD_getElem?, List.getElem?_toArray, List.getElem?_cons_zero, List.getElem?_cons_succ, Option.getD_some, Flow.wpFl, Flow.SameAll]) | (with_reducible refine Flow.region_flow (id := 21) [0, 0, 2, 6, 14, 0, 32, 126, 255, 511] 512 508 [(0, none), (1, none), (2, none), (3, none), (4, none), (5, none), (6, none), (7, none), (8, none), (9, some [])] mixed ?hB ?_; (case hB => decide +kernel); simp only [Flow.textOf, List.map_cons, List.map_nil, Option.map_none, Option.map_some, Array.getD_eq_getD_getElem?, List.getElem?_toArray, List.getElem?_cons_zero, List.getElem?_cons_succ, Option.getD_some, Flow.wpFl, Flow.SameAll]) | (refine Flow.region_still mixed ?hB ?_; (case hB => decide +kernel)))
  go_end0
  exact ⟨rfl, HST.out.1.fr (S := fun _ => False) (by (repeat' (first | with_reducible exact Fr.refl _ _ | with_reducible apply Fr.alloc | with_reducible apply Fr.drew | with_reducible apply Fr.drewN | (with_reducible refine Fr.setCell ?_ ?_ _)))) (fun _ _ h => h), (HF1.out.trans (S := R) (HST.out.2) (fun k _ e => by rw [e]; exact hrR)).trans (S := R) (S2 := fun _ => False) (by (repeat' (first | with_reducible exact Fr.refl _ _ | with_reducible apply Fr.alloc | with_reducible apply Fr.drew | with_reducible apply Fr.drewN | (with_reducible refine Fr.setCell ?_ ?_ _)))) (fun k _ h => h.elim)⟩
end Go.Proofs.Ytokmdjpaegaojaa.Seq
