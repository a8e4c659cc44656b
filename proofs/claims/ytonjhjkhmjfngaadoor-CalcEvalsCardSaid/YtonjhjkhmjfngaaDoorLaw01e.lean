/-
  CalcEvals: the law's walk.
-/
import Derived.Test.YtonjhjkhmjfngaaDoorRef01s
namespace Go.Proofs.YtonjhjkhmjfngaaDoor
open Go.RowKit
attribute [local irreducible] wpStill wpList Calls CallsIn

set_option maxHeartbeats 4000000 in
set_option maxRecDepth 100000 in
theorem evals_walk (op a b : Int) (ha : inI a) (hb : inI b) (w : World) (ht : Tabs w) : Calls Tryd.prog 3 #[.int .i64 op, .int .i64 a, .int .i64 b] w fun e w' => e = .returned (.bool true) ∧ Below w.heap.size w w' := by
  have HT := hid ht
  have HR := hid (fun op w => reval_is op a b ha hb w)
  clear ht
  go_enter Tryd.func3, Tryd.ntmps3
  go_wp2_with (first | fail | still_step | (with_reducible refine wpStill_nil ?_) | (with_reducible refine Flow.Both.mk ?_ ?_) | (with_reducible exact True.intro) | (with_reducible refine Flow.same_mk rfl rfl rfl ?_; go_simp; done) | (with_reducible exact Flow.same_un rfl rfl rfl) | (refine Flow.region_still mixed ?hB ?_; (case hB => decide +kernel)))
  go_at_call 10
  refine (awake_true w HT.out).mono ?_
  rintro e w1 ⟨rfl, hf⟩
  have HF := hid hf
  clear hf
  go_wp2_with (first | fail | still_step | (with_reducible refine wpStill_nil ?_) | (with_reducible refine Flow.Both.mk ?_ ?_) | (with_reducible exact True.intro) | (with_reducible refine Flow.same_mk rfl rfl rfl ?_; go_simp; done) | (with_reducible exact Flow.same_un rfl rfl rfl) | (refine Flow.region_still mixed ?hB ?_; (case hB => decide +kernel)))
  go_loopw [8] (fun i wr => ∃ k : Int, -1 ≤ k ∧ k ≤ 20 ∧ i = .int .i64 k ∧ Fr (fun _ => False) w wr) (fun i _ => (20 - (match i with | .int _ n => n | _ => 0)).toNat)
  case atStart => exact ⟨-1, by decide, by decide, rfl, HF.out⟩
  case round =>
    clear HF
    obtain ⟨k, hk1, hk2, rfl, hf⟩ := hrel
    have HF := hid hf
    clear hf
    by_cases hlt : k < 20
    · skip
      go_wp2_with (first | fail | still_step | (with_reducible refine wpStill_nil ?_) | (with_reducible refine Flow.Both.mk ?_ ?_) | (with_reducible exact True.intro) | (with_reducible refine Flow.same_mk rfl rfl rfl ?_; go_simp; done) | (with_reducible exact Flow.same_un rfl rfl rfl) | (refine Flow.region_still mixed ?hB ?_; (case hB => decide +kernel)))
      go_at_call 11
      refine (eval_is k a b _).mono ?_
      rintro e w2 ⟨rfl, hf⟩
      have HF2 := hid (HF.out.trans hf (fun _ _ h => h))
      clear hf
      go_wp2_with (first | fail | still_step | (with_reducible refine wpStill_nil ?_) | (with_reducible refine Flow.Both.mk ?_ ?_) | (with_reducible exact True.intro) | (with_reducible refine Flow.same_mk rfl rfl rfl ?_; go_simp; done) | (with_reducible exact Flow.same_un rfl rfl rfl) | (refine Flow.region_still mixed ?hB ?_; (case hB => decide +kernel)))
      go_at_call 12
      refine (HR.out k _).mono ?_
      rintro e w3 ⟨rfl, hf⟩
      have HF3 := hid (HF2.out.trans hf (fun _ _ h => h))
      clear hf
      generalize evalZ k a b = z
      go_wp2_with (first | fail | still_step | (with_reducible refine wpStill_nil ?_) | (with_reducible refine Flow.Both.mk ?_ ?_) | (with_reducible exact True.intro) | (with_reducible refine Flow.same_mk rfl rfl rfl ?_; go_simp; done) | (with_reducible exact Flow.same_un rfl rfl rfl) | (refine Flow.region_still mixed ?hB ?_; (case hB => decide +kernel)))
      go_roundw
      case rel =>
        have hrl : ∃ k_1 : Int, -1 ≤ k_1 ∧ k_1 ≤ 20 ∧ (Value.int .i64 (k + 1)) = .int .i64 k_1 ∧ Fr (fun _ => False) w w3 := ⟨k + 1, by omega, by omega, rfl, HF3.out⟩
        first | exact hrl | ((repeat apply Exists.intro); exact ⟨hrl, rfl⟩)
      case measure => simp; omega
    · obtain rfl : k = 20 := by omega
      go_wp2_with (first | fail | still_step | (with_reducible refine wpStill_nil ?_) | (with_reducible refine Flow.Both.mk ?_ ?_) | (with_reducible exact True.intro) | (with_reducible refine Flow.same_mk rfl rfl rfl ?_; go_simp; done) | (with_reducible exact Flow.same_un rfl rfl rfl) | (refine Flow.region_still mixed ?hB ?_; (case hB => decide +kernel)))
      go_at_call 11
      refine (eval_is op a b _).mono ?_
      rintro e w2 ⟨rfl, hf⟩
      have HF2 := hid (HF.out.trans hf (fun _ _ h => h))
      clear hf
      go_wp2_with (first | fail | still_step | (with_reducible refine wpStill_nil ?_) | (with_reducible refine Flow.Both.mk ?_ ?_) | (with_reducible exact True.intro) | (with_reducible refine Flow.same_mk rfl rfl rfl ?_; go_simp; done) | (with_reducible exact Flow.same_un rfl rfl rfl) | (refine Flow.region_still mixed ?hB ?_; (case hB => decide +kernel)))
      go_at_call 12
      refine (HR.out op _).mono ?_
      rintro e w3 ⟨rfl, hf⟩
      have HF3 := hid (HF2.out.trans hf (fun _ _ h => h))
      clear hf
      generalize evalZ op a b = z
      go_wp2_with (first | fail | still_step | (with_reducible refine wpStill_nil ?_) | (with_reducible refine Flow.Both.mk ?_ ?_) | (with_reducible exact True.intro) | (with_reducible refine Flow.same_mk rfl rfl rfl ?_; go_simp; done) | (with_reducible exact Flow.same_un rfl rfl rfl) | (refine Flow.region_still mixed ?hB ?_; (case hB => decide +kernel)))
      go_ret
      exact ⟨by simp, HF3.out.below (Nat.le_refl _) (fun _ _ h => h)⟩
end Go.Proofs.YtonjhjkhmjfngaaDoor
