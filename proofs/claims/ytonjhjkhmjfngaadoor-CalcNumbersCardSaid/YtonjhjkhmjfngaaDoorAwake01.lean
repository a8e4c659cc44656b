/-
  The example that each law of chapter 01 asks for first.
-/
import Derived.Test.YtonjhjkhmjfngaaDoorCalc2
namespace Go.Proofs.YtonjhjkhmjfngaaDoor
open Go.RowKit
attribute [local irreducible] wpStill wpList Calls CallsIn

theorem n120 : numL [49, 50, 48] = (120, true) := by decide +kernel
theorem n007 : numL [48, 48, 55] = (0, false) := by decide +kernel
theorem d40 : Lib.itoa (-40) = [45, 52, 48] := by decide +kernel
theorem ev1 : evalZ 3 (-9223372036854775808) (-1) = -9223372036854775808 := by decide +kernel
theorem ev2 : evalZ 3 7 0 = 0 := by decide +kernel
theorem ev3 : evalZ 16 5 (-1) = 1 := by decide +kernel
theorem sg8 : signL 8 = [60, 60] := by decide +kernel
theorem op2 : opL ⟨#[38, 38]⟩ = 17 := by decide +kernel
theorem rk18 : rankL 18 = 1 := by decide +kernel
theorem tr10 : truthL 10 = true := by decide +kernel
theorem tr9 : truthL 9 = false := by decide +kernel

set_option maxHeartbeats 4000000 in
set_option maxRecDepth 100000 in
theorem awake_true (w : World) (ht : Tabs w) : Calls Tryd.prog 10 #[] w fun e w' => e = .returned (.bool true) ∧ Fr (fun _ => False) w w' := by
  have HT := hid ht
  clear ht
  go_enter Tryd.func10, Tryd.ntmps10
  go_wp2_with (first | fail | still_step | (with_reducible refine wpStill_nil ?_) | (with_reducible refine Flow.Both.mk ?_ ?_) | (with_reducible exact True.intro) | (with_reducible refine Flow.same_mk rfl rfl rfl ?_; go_simp; done) | (with_reducible exact Flow.same_un rfl rfl rfl) | (refine Flow.region_still mixed ?hB ?_; (case hB => decide +kernel)))
  have hn := number_is ⟨#[49, 50, 48]⟩ (by decide) w HT.out
  rw [show numL (ByteArray.data ⟨#[49, 50, 48]⟩).toList = (120, true) from n120] at hn
  go_at_call 20
  refine hn.mono ?_
  rintro e w1 ⟨rfl, hf⟩
  have HF1 := hid hf
  clear hn hf
  go_wp2_with (first | fail | still_step | (with_reducible refine wpStill_nil ?_) | (with_reducible refine Flow.Both.mk ?_ ?_) | (with_reducible exact True.intro) | (with_reducible refine Flow.same_mk rfl rfl rfl ?_; go_simp; done) | (with_reducible exact Flow.same_un rfl rfl rfl) | (refine Flow.region_still mixed ?hB ?_; (case hB => decide +kernel)))
  have hn := number_is ⟨#[48, 48, 55]⟩ (by decide) w1 (HT.out.fr HF1.out)
  rw [show numL (ByteArray.data ⟨#[48, 48, 55]⟩).toList = (0, false) from n007] at hn
  go_at_call 20
  refine hn.mono ?_
  rintro e w2 ⟨rfl, hf⟩
  have HF2 := hid (HF1.out.trans hf (fun _ _ h => h))
  clear hn hf HF1
  go_wp2_with (first | fail | still_step | (with_reducible refine wpStill_nil ?_) | (with_reducible refine Flow.Both.mk ?_ ?_) | (with_reducible exact True.intro) | (with_reducible refine Flow.same_mk rfl rfl rfl ?_; go_simp; done) | (with_reducible exact Flow.same_un rfl rfl rfl) | (refine Flow.region_still mixed ?hB ?_; (case hB => decide +kernel)))
  go_at_call 11
  refine (eval_is 3 (-9223372036854775808) (-1) _).mono ?_
  rintro e w3 ⟨rfl, hf⟩
  rw [ev1]
  have HF3 := hid (HF2.out.trans hf (fun _ _ h => h))
  clear hf HF2
  go_wp2_with (first | fail | still_step | (with_reducible refine wpStill_nil ?_) | (with_reducible refine Flow.Both.mk ?_ ?_) | (with_reducible exact True.intro) | (with_reducible refine Flow.same_mk rfl rfl rfl ?_; go_simp; done) | (with_reducible exact Flow.same_un rfl rfl rfl) | (refine Flow.region_still mixed ?hB ?_; (case hB => decide +kernel)))
  go_at_call 11
  refine (eval_is 3 7 0 _).mono ?_
  rintro e w4 ⟨rfl, hf⟩
  rw [ev2]
  have HF4 := hid (HF3.out.trans hf (fun _ _ h => h))
  clear hf HF3
  go_wp2_with (first | fail | still_step | (with_reducible refine wpStill_nil ?_) | (with_reducible refine Flow.Both.mk ?_ ?_) | (with_reducible exact True.intro) | (with_reducible refine Flow.same_mk rfl rfl rfl ?_; go_simp; done) | (with_reducible exact Flow.same_un rfl rfl rfl) | (refine Flow.region_still mixed ?hB ?_; (case hB => decide +kernel)))
  go_at_call 11
  refine (eval_is 16 5 (-1) _).mono ?_
  rintro e w5 ⟨rfl, hf⟩
  rw [ev3]
  have HF5 := hid (HF4.out.trans hf (fun _ _ h => h))
  clear hf HF4
  go_wp2_with (first | fail | still_step | (with_reducible refine wpStill_nil ?_) | (with_reducible refine Flow.Both.mk ?_ ?_) | (with_reducible exact True.intro) | (with_reducible refine Flow.same_mk rfl rfl rfl ?_; go_simp; done) | (with_reducible exact Flow.same_un rfl rfl rfl) | (refine Flow.region_still mixed ?hB ?_; (case hB => decide +kernel)))
  go_at_call 13
  refine (sign_is 8 _ (HT.out.fr HF5.out)).mono ?_
  rintro e w6 ⟨rfl, rfl⟩
  rw [sg8]; unfold bytesV
  have HF6 := hid HF5.out
  clear HF5
  go_wp2_with (first | fail | still_step | (with_reducible refine wpStill_nil ?_) | (with_reducible refine Flow.Both.mk ?_ ?_) | (with_reducible exact True.intro) | (with_reducible refine Flow.same_mk rfl rfl rfl ?_; go_simp; done) | (with_reducible exact Flow.same_un rfl rfl rfl) | (refine Flow.region_still mixed ?hB ?_; (case hB => decide +kernel)))
  go_at_call 15
  refine (op_is ⟨#[38, 38]⟩ _ (HT.out.fr HF6.out)).mono ?_
  rintro e w7 ⟨rfl, rfl⟩
  rw [op2]
  have HF7 := hid HF6.out
  clear HF6
  go_wp2_with (first | fail | still_step | (with_reducible refine wpStill_nil ?_) | (with_reducible refine Flow.Both.mk ?_ ?_) | (with_reducible exact True.intro) | (with_reducible refine Flow.same_mk rfl rfl rfl ?_; go_simp; done) | (with_reducible exact Flow.same_un rfl rfl rfl) | (refine Flow.region_still mixed ?hB ?_; (case hB => decide +kernel)))
  go_at_call 17
  refine (rank_is 18 _ (HT.out.fr HF7.out)).mono ?_
  rintro e w8 ⟨rfl, rfl⟩
  rw [rk18]
  have HF8 := hid HF7.out
  clear HF7
  go_wp2_with (first | fail | still_step | (with_reducible refine wpStill_nil ?_) | (with_reducible refine Flow.Both.mk ?_ ?_) | (with_reducible exact True.intro) | (with_reducible refine Flow.same_mk rfl rfl rfl ?_; go_simp; done) | (with_reducible exact Flow.same_un rfl rfl rfl) | (refine Flow.region_still mixed ?hB ?_; (case hB => decide +kernel)))
  go_at_call 19
  refine (truth_is 10 _).mono ?_
  rintro e w9 ⟨rfl, rfl⟩
  rw [tr10]
  have HF9 := hid HF8.out
  clear HF8
  go_wp2_with (first | fail | still_step | (with_reducible refine wpStill_nil ?_) | (with_reducible refine Flow.Both.mk ?_ ?_) | (with_reducible exact True.intro) | (with_reducible refine Flow.same_mk rfl rfl rfl ?_; go_simp; done) | (with_reducible exact Flow.same_un rfl rfl rfl) | (refine Flow.region_still mixed ?hB ?_; (case hB => decide +kernel)))
  go_at_call 19
  refine (truth_is 9 _).mono ?_
  rintro e w10 ⟨rfl, rfl⟩
  rw [tr9]
  have HF10 := hid HF9.out
  clear HF9
  go_wp2_with (first | fail | still_step | (with_reducible refine wpStill_nil ?_) | (with_reducible refine Flow.Both.mk ?_ ?_) | (with_reducible exact True.intro) | (with_reducible refine Flow.same_mk rfl rfl rfl ?_; go_simp; done) | (with_reducible exact Flow.same_un rfl rfl rfl) | (refine Flow.region_still mixed ?hB ?_; (case hB => decide +kernel)))
  go_at_call 22
  refine (digits_is (-40) (by decide) (by decide) _ (HT.out.fr HF10.out)).mono ?_
  rintro e w11 ⟨rfl, hf⟩
  rw [d40]; unfold bytesV
  have HF11 := hid (HF10.out.trans hf (fun _ _ h => h))
  clear hf HF10
  go_wp2_with (first | fail | still_step | (with_reducible refine wpStill_nil ?_) | (with_reducible refine Flow.Both.mk ?_ ?_) | (with_reducible exact True.intro) | (with_reducible refine Flow.same_mk rfl rfl rfl ?_; go_simp; done) | (with_reducible exact Flow.same_un rfl rfl rfl) | (refine Flow.region_still mixed ?hB ?_; (case hB => decide +kernel)))
  go_ret
  exact ⟨by simp, HF11.out⟩
end Go.Proofs.YtonjhjkhmjfngaaDoor
