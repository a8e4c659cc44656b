/-
  The example of chapter 33: it is as the document says.
-/
import Derived.Test.YtbfeopakmjcapaaTwF
set_option linter.unusedVariables false
set_option linter.unusedSimpArgs false
set_option maxHeartbeats 4000000
set_option maxRecDepth 8000
namespace Go.Proofs.Ytbfeopakmjcapaa.Sp
open Go.RowKit Go.Proofs.Ytbfeopakmjcapaa.Seq Go.Proofs.Ytbfeopakmjcapaa.Tso
attribute [local irreducible] wpStill wpList Calls CallsIn

def kC : List Ins := [⟨0, 0, 0, 0, 0, 1, 0⟩, ⟨7, 0, 0, 0, 0, 0, 3⟩, ⟨13, 0, 0, 0, 0, 0, 0⟩, ⟨4, 0, 1, -1, 0, 1, 0⟩, ⟨4, 0, 2, 1, 0, 0, 0⟩, ⟨13, 0, 0, 0, 0, 0, 0⟩]
def kA : List (Int × Int × Bool) := [(0, 1, false), (1, 1, true)]
def kL : List (Int × Int) := [(3, 0), (0, 0), (2, 0), (0, 0), (0, 0)]
theorem kSearch : searchP [kC] 2 0 1 9 [0, 5] [0, 6] 0 24 0 = kL := by decide +kernel
theorem kTrace : (traceP [kC] 2 0 1 9 kL [0, 5])[4]? = some (true, ⟨1, 0, 0, 5⟩) := by decide +kernel
theorem kTraceLen : (traceP [kC] 2 0 1 9 kL [0, 5]).length = 5 := by decide +kernel
theorem kPart : partI (traceP [kC] 2 0 1 9 kL [0, 5]) (traceP [kC] 2 0 1 9 kL [0, 6]) = 4 := by decide +kernel
theorem kAlike : alikeP kA [0, 5] [0, 6] = true := by decide +kernel
theorem kUnlike : alikeP kA [1] [] = false := by decide +kernel

theorem szIMG : (Try.prog.info? 25).map (·.size) = some 4 := by kernel_rfl
theorem unIMG : ∃ d, Try.prog.underlying 25 = some d ∧ d.isRow = true := ⟨_, Try.underlying25, rfl⟩
set_option maxRecDepth 100000 in
theorem leaky_is (w : World) : Calls Try.prog 45 #[] w fun e w' => ∃ bI bC bA : Nat, e = .returned (.agg #[.slice (some ⟨bC, 0, none⟩) 1 1, .slice (some ⟨bA, 0, none⟩) 2 2, .int .i64 2, .int .i64 0]) ∧ Blk w' bI (codeC kC).toArray 57 ∧ Blk w' bC #[.slice (some ⟨bI, 0, none⟩) 6 6] 59 ∧ Blk w' bA (areaC kA).toArray 104 ∧ Fr (fun _ => False) w w' := by
  go_enter Try.func45, Try.ntmps45
  go_wp2_with (first | still_step | (with_reducible first | refine wpStill_nil ?_ | refine Flow.Both.mk ?_ ?_ | exact True.intro) | (with_reducible refine Flow.same_mk rfl rfl rfl ?_; go_simp; done) | (with_reducible exact Flow.same_un rfl rfl rfl) | (refine Flow.region_still mixed ?hB ?_; (case hB => decide +kernel)))
  have hres := fun (C : Array Value) (hC : C.size = 4) (tmps : Array Value) (w : World) (b : Nat) (ha : tmps.getD 0 undef = .pointer (some ⟨b, 0, none⟩)) (hb : Blk w b C 25) => results_c1 (P := Try.prog) Try.results45 ha hb unIMG.choose_spec.1 unIMG.choose_spec.2 (by rw [hC]; exact szIMG)
  refine bodyPost_ret (hres #[.slice (some ⟨w.heap.size + 1 + 1, 0, none⟩) 1 1, .slice (some ⟨w.heap.size + 1 + 1 + 1, 0, none⟩) 2 2, .int .i64 2, .int .i64 0] rfl _ _ w.heap.size rfl (by (repeat (first | exact Blk.new _ _ _ | with_reducible apply Blk.drew | with_reducible apply Blk.alloc)))) rfl ?_
  refine ⟨w.heap.size + 1, w.heap.size + 1 + 1, w.heap.size + 1 + 1 + 1, rfl, ?_, ?_, ?_, by (with_reducible repeat' (first | exact Fr.refl _ _ | apply Fr.alloc | apply Fr.drew | apply Fr.drewN | refine Fr.setCell ?_ ?_ _))⟩
  · (repeat (first | exact Blk.new' (by simp) | with_reducible apply Blk.drew | with_reducible apply Blk.alloc))
  · (repeat (first | exact Blk.new' (by simp) | with_reducible apply Blk.drew | with_reducible apply Blk.alloc))
  · (repeat (first | exact Blk.new' (by simp) | with_reducible apply Blk.drew | with_reducible apply Blk.alloc))

set_option maxRecDepth 100000 in
theorem awake33_true (w : World) : Calls Try.prog 26 #[] w fun e w' => e = .returned (.bool true) ∧ Fr (fun _ => False) w w' := by
  go_enter Try.func26, Try.ntmps26
  go_wp2_with (first | still_step | (with_reducible first | refine wpStill_nil ?_ | refine Flow.Both.mk ?_ ?_ | exact True.intro) | (with_reducible refine Flow.same_mk rfl rfl rfl ?_; go_simp; done) | (with_reducible exact Flow.same_un rfl rfl rfl) | (refine Flow.region_still mixed ?hB ?_; (case hB => decide +kernel)))
  go_at_call 45
  refine (leaky_is _).mono ?_
  rintro e w1 ⟨bI, bC, bA, rfl, hI, hC, hA, hf1⟩
  have HI := hid hI
  have HC := hid hC
  have HA := hid hA
  have HF1 := hid hf1
  clear hI hC hA hf1
  go_wp2_with (first | still_step | (with_reducible first | refine wpStill_nil ?_ | refine Flow.Both.mk ?_ ?_ | exact True.intro) | (with_reducible refine Flow.same_mk rfl rfl rfl ?_; go_simp; done) | (with_reducible exact Flow.same_un rfl rfl rfl) | (refine Flow.region_still mixed ?hB ?_; (case hB => decide +kernel)))
  go_at_call 46
  refine Calls.named fun wc hwc => ?_
  have hfc : Fr (fun _ => False) w1 wc := by rw [hwc]; (with_reducible repeat' (first | exact Fr.refl _ _ | apply Fr.alloc | apply Fr.drew | apply Fr.drewN | refine Fr.setCell ?_ ?_ _))
  have hba : Blk wc w1.heap.size #[.int .i64 0, .int .i64 5] 2 := by rw [hwc]; (repeat (first | exact Blk.new' (by simp) | with_reducible apply Blk.drew | with_reducible apply Blk.alloc))
  have hbb : Blk wc (w1.heap.size + 1) #[.int .i64 0, .int .i64 6] 2 := by rw [hwc]; (repeat (first | exact Blk.new' (by simp) | with_reducible apply Blk.drew | with_reducible apply Blk.alloc))
  have hbp : Blk wc (w1.heap.size + 1 + 1) #[.slice (some ⟨bC, 0, none⟩) 1 1, .slice (some ⟨bA, 0, none⟩) 2 2, .int .i64 2, .int .i64 0, .slice (some ⟨w1.heap.size, 0, none⟩) 2 2, .slice (some ⟨w1.heap.size + 1, 0, none⟩) 2 2, .int .i64 1, .int .i64 9, .slice none 0 0] 69 := by rw [hwc]; (repeat (first | exact Blk.new' (by simp) | with_reducible apply Blk.drew | with_reducible apply Blk.alloc))
  have hwc2 : wc.heap.size = w1.heap.size + 3 := by rw [hwc]; simp
  clear hwc
  have HFC := hid (HF1.out.trans hfc (fun _ _ h => h))
  have HCD := hid (show ∀ W, Fr (fun z => z = (w1.heap.size + 1 + 1)) wc W → Codes W (fun _ => True) (some ⟨bC, 0, none⟩) [((some (⟨bI, 0, none⟩ : Addr), 6), kC)] from fun W hf => by
    have e1 : bI ≠ (w1.heap.size + 1 + 1) := by have := HI.out.lt; omega
    have e2 : bC ≠ (w1.heap.size + 1 + 1) := by have := HC.out.lt; omega
    refine ⟨Vw.of_blk ((HC.out.fr hfc (fun h => h)).fr hf e2) trivial rfl, fun q hq => ?_⟩
    simp at hq
    subst hq
    exact ⟨Vw.of_blk (C := (codeC kC).toArray) ((HI.out.fr hfc (fun h => h)).fr hf e1) trivial rfl, fun h => by cases h⟩)
  have HAR := hid (show ∀ W, Fr (fun z => z = (w1.heap.size + 1 + 1)) wc W → Vw W 3 (fun _ => True) (some ⟨bA, 0, none⟩) 2 (areaC kA) from fun W hf => Vw.of_blk (C := (areaC kA).toArray) ((HA.out.fr hfc (fun h => h)).fr hf (by have := HA.out.lt; omega)) trivial rfl)
  have HMA := hid (show ∀ W, Fr (fun z => z = (w1.heap.size + 1 + 1)) wc W → Vw W 1 (fun _ => True) (some ⟨w1.heap.size, 0, none⟩) 2 (ints [0, 5]) from fun W hf => Vw.of_blk (C := (ints [0, 5]).toArray) (hba.fr hf (by omega)) trivial rfl)
  have HMB := hid (show ∀ W, Fr (fun z => z = (w1.heap.size + 1 + 1)) wc W → Vw W 1 (fun _ => True) (some ⟨w1.heap.size + 1, 0, none⟩) 2 (ints [0, 6]) from fun W hf => Vw.of_blk (C := (ints [0, 6]).toArray) (hbb.fr hf (by omega)) trivial rfl)
  have HPW := hid (show w.heap.size ≤ (w1.heap.size + 1 + 1) by have := HF1.out.size; omega)
  have HPC := hid (show (w1.heap.size + 1 + 1) < wc.heap.size by omega)
  have HBP := hid hbp
  have HKI := hid (show ∀ q ∈ [((some (⟨bI, 0, none⟩ : Addr), 6), kC)], q.2.length ≤ 100000 from fun q hq => by simp at hq; subst hq; simp [kC])
  have HKO := hid (show ∀ q ∈ [((some (⟨bI, 0, none⟩ : Addr), 6), kC)], ∀ i ∈ q.2, insOk q.2.length 0 i from fun q hq => by
    simp at hq
    subst hq
    intro i hi
    simp [kC] at hi
    rcases hi with rfl | rfl | rfl | rfl | rfl | rfl <;> simp [insOk, kC])
  have HF2 := hid (Fr.refl (fun z => z = (w1.heap.size + 1 + 1)) wc)
  clear hfc hba hbb hbp
  have hse := search_is (fun _ => True) (fun _ => True) (some ⟨bC, 0, none⟩) (some ⟨bA, 0, none⟩) (some ⟨w1.heap.size, 0, none⟩) (some ⟨w1.heap.size + 1, 0, none⟩) none 1 2 2 2 2 0 0 [((some (⟨bI, 0, none⟩ : Addr), 6), kC)] 2 0 1 9 [0, 5] [0, 6] 0 24 (by omega) wc (HCD.out _ HF2.out) (HMA.out _ HF2.out) (fun h => by cases h) (HMB.out _ HF2.out) (fun h => by cases h) (by simp) (by simp) (by simp) HKI.out (by omega) (by omega) HKO.out
  rw [show [((some (⟨bI, 0, none⟩ : Addr), 6), kC)].map (·.2) = [kC] from rfl, kSearch] at hse
  refine hse.mono ?_
  clear hse
  rintro e w3 ⟨a3, c3, rfl, hv3, hf3⟩
  have HV3 := hid hv3
  have HBP3 := hid (HBP.out.fr hf3 (fun h => h))
  have HF3 := hid (HF2.out.trans hf3 (fun _ _ h => h.elim))
  have hl3 := HBP3.out.lt
  clear hv3 hf3 HF2 HBP
  go_wp2_with (first | ((with_reducible apply wpList_setA (b := (w1.heap.size + 1 + 1)) (o := 8) (C := #[.slice (some ⟨bC, 0, none⟩) 1 1, .slice (some ⟨bA, 0, none⟩) 2 2, .int .i64 2, .int .i64 0, .slice (some ⟨w1.heap.size, 0, none⟩) 2 2, .slice (some ⟨w1.heap.size + 1, 0, none⟩) 2 2, .int .i64 1, .int .i64 9, .slice none 0 0]) (v := .slice a3 5 c3) (T := 69)); (case zcx => rfl); (case zcy => rfl); (case zcv => rfl); (case zc1 => rfl); (case zcn => simp); (case zci => exact szDOS); (case zcb => exact HBP3.out); intro w4 hb4 hf4 hs4; have hx4 : Blk w4 (w1.heap.size + 1 + 1) #[.slice (some ⟨bC, 0, none⟩) 1 1, .slice (some ⟨bA, 0, none⟩) 2 2, .int .i64 2, .int .i64 0, .slice (some ⟨w1.heap.size, 0, none⟩) 2 2, .slice (some ⟨w1.heap.size + 1, 0, none⟩) 2 2, .int .i64 1, .int .i64 9, .slice a3 5 c3] 69 := hb4; have c0_p := hx4.cell 0; have c1_p := hx4.cell 1; have c2_p := hx4.cell 2; have c3_p := hx4.cell 3; have c4_p := hx4.cell 4; have c5_p := hx4.cell 5; have c6_p := hx4.cell 6; have c7_p := hx4.cell 7; have c8_p := hx4.cell 8; have l_p := hx4.lt; have HX4 := hid hx4; clear hx4; have HE4 := hid hf4; have HF4 := hid hf4; clear hb4 hf4 hs4) | still_step | (with_reducible first | refine wpStill_nil ?_ | refine Flow.Both.mk ?_ ?_ | exact True.intro) | (with_reducible refine Flow.same_mk rfl rfl rfl ?_; go_simp; done) | (with_reducible exact Flow.same_un rfl rfl rfl) | (refine Flow.region_still mixed ?hB ?_; (case hB => decide +kernel)))
  clear c0_p c1_p c2_p c3_p c4_p c5_p c6_p c7_p c8_p l_p
  have HF4 := hid (HF3.out.trans HF4.out (fun z _ h => h))
  have HV4 := hid (HV3.out.fr (S := fun z => z = w1.heap.size + 1 + 1) HE4.out (fun z hz e => by have := HPC.out; omega) |>.mono (R2 := fun _ => True) (fun _ _ => trivial))
  have HG4 := hid (Fr.refl (fun _ => False) w4)
  clear HBP3 HF3 hl3 HV3 HE4
  go_at_call 47
  refine Calls.named fun wc5 hwc => ?_
  have hfc : Fr (fun _ => False) w4 wc5 := by rw [hwc]; (with_reducible repeat' (first | exact Fr.refl _ _ | apply Fr.alloc | apply Fr.drew | apply Fr.drewN | refine Fr.setCell ?_ ?_ _))
  have HFC5 := hid (HF4.out.trans hfc (fun _ _ h => h.elim))
  have hte := trace_any (fun _ => True) (fun _ => True) (some ⟨bC, 0, none⟩) (some ⟨w1.heap.size, 0, none⟩) (some ⟨bA, 0, none⟩) a3 1 2 2 2 c3 [((some (⟨bI, 0, none⟩ : Addr), 6), kC)] 2 0 1 9 [0, 5] kL wc5 (HCD.out _ HFC5.out) (HMA.out _ HFC5.out) (fun h => by cases h) (by simp) (by simp) HKI.out (by omega) (by omega) HKO.out (by decide) (HV4.out.fr hfc (fun _ _ h => h))
  rw [show [((some (⟨bI, 0, none⟩ : Addr), 6), kC)].map (·.2) = [kC] from rfl] at hte
  obtain ⟨TT, hTT⟩ : ∃ x, x = traceP [kC] 2 0 1 9 kL [0, 5] := ⟨_, rfl⟩
  rw [← hTT] at hte
  have h4 : TT[4]? = some (true, ⟨1, 0, 0, 5⟩) := by rw [hTT]; exact kTrace
  have hl4 : TT.length = 5 := by rw [hTT]; exact kTraceLen
  rw [hl4] at hte
  have hlt4 : 4 < TT.length := by omega
  have hg4 : TT[4] = (true, ⟨1, 0, 0, 5⟩) := by
    have := (List.getElem?_eq_some_iff.1 h4).2
    exact this
  have HG4x := hid (show ∃ h : 4 < TT.length, TT[4] = (true, (⟨1, 0, 0, 5⟩ : Leak)) from ⟨hlt4, hg4⟩)
  refine hte.mono ?_
  clear hte hTT h4 hl4 hg4 hlt4
  rintro e w5 ⟨a5, c5, rfl, hv5, hf5⟩
  have HV5 := hid hv5
  have HG5 := hid ((HG4.out.trans hfc (fun _ _ h => h)).trans hf5 (fun _ _ h => h))
  have HF5 := hid (HFC5.out.trans hf5 (fun _ _ h => h.elim))
  have HV45 := hid (HV4.out.fr HG5.out (fun _ _ h => h))
  obtain ⟨rl, ol, rfl, _, hcl⟩ := HV45.out.cell (by decide)
  have d4 : w5.cell? ⟨rl, ol + 4, none⟩ = some (.int .i64 2) := hcl 4 _ rfl
  have lrl := World.block_lt_of_cell? _ _ d4
  dsimp only at lrl
  clear hwc hfc hv5 hf5 hcl HV4
  have hx := HX4.out.fr HG5.out (fun h => h)
  have c0_p := hx.cell 0
  have c1_p := hx.cell 1
  have c2_p := hx.cell 2
  have c3_p := hx.cell 3
  have c4_p := hx.cell 4
  have c5_p := hx.cell 5
  have c6_p := hx.cell 6
  have c7_p := hx.cell 7
  have c8_p := hx.cell 8
  have l_p := hx.lt
  clear hx
  go_wp2_with (first | still_step | (with_reducible first | refine wpStill_nil ?_ | refine Flow.Both.mk ?_ ?_ | exact True.intro) | (with_reducible refine Flow.same_mk rfl rfl rfl ?_; go_simp; done) | (with_reducible exact Flow.same_un rfl rfl rfl) | (refine Flow.region_still mixed ?hB ?_; (case hB => decide +kernel)))
  clear c0_p c1_p c2_p c3_p c4_p c5_p c6_p c7_p c8_p l_p
  clear d4 lrl
  go_at_call 28
  refine Calls.named fun wc6 hwc => ?_
  have hfc : Fr (fun _ => False) w5 wc6 := by rw [hwc]; (with_reducible repeat' (first | exact Fr.refl _ _ | apply Fr.alloc | apply Fr.drew | apply Fr.drewN | refine Fr.setCell ?_ ?_ _))
  have HFC2 := hid (HF5.out.trans hfc (fun _ _ h => h.elim))
  have hpt := part_is (fun _ => True) (fun _ => True) (some ⟨bC, 0, none⟩) (some ⟨bA, 0, none⟩) (some ⟨w1.heap.size, 0, none⟩) (some ⟨w1.heap.size + 1, 0, none⟩) (some ⟨rl, ol, none⟩) 1 2 2 2 2 c3 [((some (⟨bI, 0, none⟩ : Addr), 6), kC)] 2 0 1 9 [0, 5] [0, 6] kL wc6 (HCD.out _ HFC2.out) (HMA.out _ HFC2.out) (fun h => by cases h) (HMB.out _ HFC2.out) (fun h => by cases h) (by simp) (by simp) (by simp) HKI.out (by omega) (by omega) HKO.out (by decide) (HV45.out.fr hfc (fun _ _ h => h))
  rw [show [((some (⟨bI, 0, none⟩ : Addr), 6), kC)].map (·.2) = [kC] from rfl, kPart] at hpt
  refine hpt.mono ?_
  clear hpt
  rintro e w6 ⟨rfl, hf6⟩
  have HG6 := hid ((HG5.out.trans hfc (fun _ _ h => h)).trans hf6 (fun _ _ h => h))
  have HF6 := hid (HFC2.out.trans hf6 (fun _ _ h => h.elim))
  obtain ⟨rt, ot, rfl, hsa⟩ := seen_at ((HV5.out.fr hfc (fun _ _ h => h)).fr hf6 (fun _ _ h => h)) HG4x.out.choose
  rw [HG4x.out.choose_spec] at hsa
  have t0 : w6.cell? ⟨rt, ot + 20, none⟩ = some (.bool true) := hsa.c0
  have t4 : w6.cell? ⟨rt, ot + 24, none⟩ = some (.int .i64 5) := hsa.c4
  have lrt := World.block_lt_of_cell? _ _ t0
  dsimp only at lrt
  clear hwc hfc hf6 hsa
  have hx := HX4.out.fr HG6.out (fun h => h)
  have c0_p := hx.cell 0
  have c1_p := hx.cell 1
  have c2_p := hx.cell 2
  have c3_p := hx.cell 3
  have c4_p := hx.cell 4
  have c5_p := hx.cell 5
  have c6_p := hx.cell 6
  have c7_p := hx.cell 7
  have c8_p := hx.cell 8
  have l_p := hx.lt
  clear hx
  go_wp2_with (first | still_step | (with_reducible first | refine wpStill_nil ?_ | refine Flow.Both.mk ?_ ?_ | exact True.intro) | (with_reducible refine Flow.same_mk rfl rfl rfl ?_; go_simp; done) | (with_reducible exact Flow.same_un rfl rfl rfl) | (refine Flow.region_still mixed ?hB ?_; (case hB => decide +kernel)))
  clear c0_p c1_p c2_p c3_p c4_p c5_p c6_p c7_p c8_p l_p
  clear t0 t4 lrt
  go_at_call 29
  refine Calls.named fun wc7 hwc => ?_
  have hfc : Fr (fun _ => False) w6 wc7 := by rw [hwc]; (with_reducible repeat' (first | exact Fr.refl _ _ | apply Fr.alloc | apply Fr.drew | apply Fr.drewN | refine Fr.setCell ?_ ?_ _))
  have HFC3 := hid (HF6.out.trans hfc (fun _ _ h => h.elim))
  have hal := alike_is (some ⟨bC, 0, none⟩) (some ⟨bA, 0, none⟩) (some ⟨w1.heap.size, 0, none⟩) (some ⟨w1.heap.size + 1, 0, none⟩) 1 2 1 2 2 2 2 0 kA [0, 5] [0, 6] wc7 (HAR.out _ HFC3.out) (by intro x hx; simp [kA] at hx; rcases hx with rfl | rfl <;> simp) (by decide) (by omega) (HMA.out _ HFC3.out) (HMB.out _ HFC3.out)
  rw [kAlike] at hal
  refine hal.mono ?_
  clear hal
  rintro e w7 ⟨rfl, hf7⟩
  have HG7 := hid ((HG6.out.trans hfc (fun _ _ h => h)).trans hf7 (fun _ _ h => h))
  have HF7 := hid (HFC3.out.trans hf7 (fun _ _ h => h.elim))
  clear hwc hfc hf7
  have hx := HX4.out.fr HG7.out (fun h => h)
  have c0_p := hx.cell 0
  have c1_p := hx.cell 1
  have c2_p := hx.cell 2
  have c3_p := hx.cell 3
  have c4_p := hx.cell 4
  have c5_p := hx.cell 5
  have c6_p := hx.cell 6
  have c7_p := hx.cell 7
  have c8_p := hx.cell 8
  have l_p := hx.lt
  clear hx
  go_wp2_with (first | still_step | (with_reducible first | refine wpStill_nil ?_ | refine Flow.Both.mk ?_ ?_ | exact True.intro) | (with_reducible refine Flow.same_mk rfl rfl rfl ?_; go_simp; done) | (with_reducible exact Flow.same_un rfl rfl rfl) | (refine Flow.region_still mixed ?hB ?_; (case hB => decide +kernel)))
  clear c0_p c1_p c2_p c3_p c4_p c5_p c6_p c7_p c8_p l_p
  go_at_call 29
  refine Calls.named fun wc8 hwc => ?_
  have hfc : Fr (fun _ => False) w7 wc8 := by rw [hwc]; (with_reducible repeat' (first | exact Fr.refl _ _ | apply Fr.alloc | apply Fr.drew | apply Fr.drewN | refine Fr.setCell ?_ ?_ _))
  have hb1 : Blk wc8 w7.heap.size #[.int .i64 1] 2 := by rw [hwc]; (repeat (first | exact Blk.new' (by simp) | with_reducible apply Blk.drew | with_reducible apply Blk.alloc))
  have HFC4 := hid (HF7.out.trans hfc (fun _ _ h => h.elim))
  have hal := alike_is (some ⟨bC, 0, none⟩) (some ⟨bA, 0, none⟩) (some ⟨w7.heap.size, 0, none⟩) none 1 2 1 1 0 2 2 0 kA [1] [] wc8 (HAR.out _ HFC4.out) (by intro x hx; simp [kA] at hx; rcases hx with rfl | rfl <;> simp) (by decide) (by omega) (Vw.of_blk (C := (ints [1]).toArray) hb1 trivial rfl) ⟨rfl, .inl rfl⟩
  rw [kUnlike] at hal
  refine hal.mono ?_
  clear hal
  rintro e w8 ⟨rfl, hf8⟩
  have HF8 := hid (HFC4.out.trans hf8 (fun _ _ h => h.elim))
  have HPW2 := hid (HPW.out)
  clear hwc hfc hf8 hb1
  go_wp2_with (first | still_step | (with_reducible first | refine wpStill_nil ?_ | refine Flow.Both.mk ?_ ?_ | exact True.intro) | (with_reducible refine Flow.same_mk rfl rfl rfl ?_; go_simp; done) | (with_reducible exact Flow.same_un rfl rfl rfl) | (refine Flow.region_still mixed ?hB ?_; (case hB => decide +kernel)))
  go_ret
  exact ⟨rfl, (HFC.out.trans HF8.out (fun z hz e => by have := HPW.out; omega)).trans (show Fr (fun _ => False) w8 _ by (with_reducible repeat' (first | exact Fr.refl _ _ | apply Fr.alloc | apply Fr.drew | apply Fr.drewN | refine Fr.setCell ?_ ?_ _))) (fun _ _ h => h)⟩
end Go.Proofs.Ytbfeopakmjcapaa.Sp
