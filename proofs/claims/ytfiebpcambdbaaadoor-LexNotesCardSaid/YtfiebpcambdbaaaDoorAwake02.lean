/-
  The examples that each law of chapter 02 asks for first.
-/
import Derived.Test.YtfiebpcambdbaaaDoorRefL
set_option linter.unusedVariables false
set_option linter.unusedSimpArgs false
set_option maxHeartbeats 4000000
set_option maxRecDepth 8000
namespace Go.Proofs.YtfiebpcambdbaaaDoor
open Go.RowKit Go.Shelf Go.Proofs.YtfiebpcambdbaaaDoor.Lex
attribute [local irreducible] wpStill wpList Calls CallsIn

theorem wordsB_by {s : B} {x : Except (Int × Int) (List Wd)} (h : s.length ≤ 16384) (h2 : wordsF (s.length + 1) s.length (skipF (s.length + 1) s) = x) : wordsB s = x := by
  unfold wordsB
  rw [if_neg (by omega), ← h2, skipF_is _ _ (by omega), wordsF_is _ _ _ (by have := skipB_le s; omega)]
theorem ex1 : wordsB [97, 60, 61, 45, 49, 32, 47, 47, 120, 10] = .ok [⟨0, [97], 0, 0⟩, ⟨2, [60, 61], 0, 1⟩, ⟨2, [45], 0, 3⟩, ⟨1, [49], 1, 4⟩, ⟨3, [], 0, 10⟩] := wordsB_by (by decide) (by kernel_rfl)
theorem ex2 : wordsB [97, 32, 49, 120] = .error (10, 2) := wordsB_by (by decide) (by kernel_rfl)

set_option maxRecDepth 100000 in
theorem awake_true (w : World) (ht : Tabs w) : Calls Tryd.prog 8 #[] w fun e w' => e = .returned (.bool true) ∧ Fr (fun _ => False) w w' := by
  have HT := hid ht
  have hw1 := fun w ht => words_is [97, 60, 61, 45, 49, 32, 47, 47, 120, 10] w (by decide) ht
  rw [ex1] at hw1
  have HW1 := hid hw1
  have hw2 := fun w ht => words_is [97, 32, 49, 120] w (by decide) ht
  rw [ex2] at hw2
  have HW2 := hid hw2
  have HLN := hid (fun w => line_is [97, 10, 98, 99] 3 w (by decide))
  have HK1 := hid (fun w => key_is [119, 104, 105, 108, 101] w)
  have HK2 := hid (fun w => key_is [119, 104, 97, 108, 101] w)
  rw [show keyB [119, 104, 105, 108, 101] = true from by decide] at HK1
  rw [show keyB [119, 104, 97, 108, 101] = false from by decide] at HK2
  rw [show lineP (([97, 10, 98, 99] : B).take 3) = 2 from by decide, show colP (([97, 10, 98, 99] : B).take 3) = 2 from by decide] at HLN
  clear hw1 hw2 ht
  go_enter Tryd.func8, Tryd.ntmps8
  go_wp2_with (first | still_step | (with_reducible first | refine wpStill_nil ?_ | refine Flow.Both.mk ?_ ?_ | exact True.intro) | (with_reducible refine Flow.same_mk rfl rfl rfl ?_; go_simp; done) | (with_reducible exact Flow.same_un rfl rfl rfl) | (refine Flow.region_still mixed ?hB ?_; (case hB => decide +kernel)))
  go_at_call 9
  refine (HW1.out _ HT.out).mono ?_
  rintro e w1 ⟨ao, cap, rfl, ho, hf⟩
  have HF1 := hid hf
  have HV := hid ho.vw
  clear ho hf
  go_wp2_with (first | still_step | (with_reducible first | refine wpStill_nil ?_ | refine Flow.Both.mk ?_ ?_ | exact True.intro) | (with_reducible refine Flow.same_mk rfl rfl rfl ?_; go_simp; done) | (with_reducible exact Flow.same_un rfl rfl rfl) | (refine Flow.region_still mixed ?hB ?_; (case hB => decide +kernel)))
  go_at_call 9
  refine (HW2.out _ (HT.out.fr HF1.out)).mono ?_
  rintro e w2 ⟨rfl, hf⟩
  have HF2 := hid hf
  clear hf
  go_wp2_with (first | still_step | (with_reducible first | refine wpStill_nil ?_ | refine Flow.Both.mk ?_ ?_ | exact True.intro) | (with_reducible refine Flow.same_mk rfl rfl rfl ?_; go_simp; done) | (with_reducible exact Flow.same_un rfl rfl rfl) | (refine Flow.region_still mixed ?hB ?_; (case hB => decide +kernel)))
  go_at_call 13
  refine (HLN.out _).mono ?_
  rintro e w3 ⟨rfl, hf⟩
  have HF3 := hid (HF2.out.trans hf (fun _ _ h => h))
  have hv := HV.out.fr HF3.out (fun _ _ h => h)
  obtain ⟨r, off, rfl, hr, hc⟩ := hv.cell (by simp [wdsC, wdC])
  have c5 : w3.cell? ⟨r, off + 1 * 4 + 1, none⟩ = some (.string ⟨#[60, 61]⟩) := hc 5 _ rfl
  have c8 : w3.cell? ⟨r, off + 2 * 4, none⟩ = some (.int .i64 2) := hc 8 _ rfl
  have c14 : w3.cell? ⟨r, off + 3 * 4 + 2, none⟩ = some (.int .i64 1) := hc 14 _ rfl
  have c16 : w3.cell? ⟨r, off + 4 * 4, none⟩ = some (.int .i64 3) := hc 16 _ rfl
  have c19 : w3.cell? ⟨r, off + 4 * 4 + 3, none⟩ = some (.int .i64 10) := hc 19 _ rfl
  have lr := World.block_lt_of_cell? _ _ c5
  dsimp only at lr
  clear hf hv hc HV
  go_wp2_with (first | (go_at_call 15; refine (HK1.out _).mono ?_; rintro e w4 ⟨rfl, hf⟩; have HF4 := hid hf; clear hf) | (go_at_call 15; refine (HK2.out _).mono ?_; rintro e w5 ⟨rfl, hf⟩; have HF5 := hid hf; clear hf) | still_step | (with_reducible first | refine wpStill_nil ?_ | refine Flow.Both.mk ?_ ?_ | exact True.intro) | (with_reducible refine Flow.same_mk rfl rfl rfl ?_; go_simp; done) | (with_reducible exact Flow.same_un rfl rfl rfl) | (refine Flow.region_still mixed ?hB ?_; (case hB => decide +kernel)))
  go_ret
  exact ⟨rfl, ((HF1.out.trans HF3.out (fun _ _ h => h)).trans HF4.out (fun _ _ h => h)).trans HF5.out (fun _ _ h => h)⟩
end Go.Proofs.YtfiebpcambdbaaaDoor
