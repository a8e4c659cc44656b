/-
  CalcSigns: the law's walk.
-/
import Derived.Test.YtonjhjkhmjfngaaDoorRef01
namespace Go.Proofs.YtonjhjkhmjfngaaDoor
open Go.RowKit
attribute [local irreducible] wpStill wpList Calls CallsIn

set_option maxHeartbeats 4000000 in
set_option maxRecDepth 100000 in
theorem signs_walk (op : Int) (s : ByteArray) (hsz : s.size ≤ 140737488351232) (w : World) (ht : Tabs w) : Calls Tryd.prog 4 #[.int .i64 op, .string s] w fun e w' => e = .returned (.bool true) ∧ Below w.heap.size w w' := by
  have HT := hid ht
  clear ht
  go_enter Tryd.func4, Tryd.ntmps4
  go_wp2_with (first | fail | still_step | (with_reducible refine wpStill_nil ?_) | (with_reducible refine Flow.Both.mk ?_ ?_) | (with_reducible exact True.intro) | (with_reducible refine Flow.same_mk rfl rfl rfl ?_; go_simp; done) | (with_reducible exact Flow.same_un rfl rfl rfl) | (refine Flow.region_still mixed ?hB ?_; (case hB => decide +kernel)))
  go_at_call 10
  refine (awake_true w HT.out).mono ?_
  rintro e w1 ⟨rfl, hf⟩
  have HF := hid hf
  clear hf
  by_cases hl : s.size ≤ 20
  · go_wp2_with (first | fail | still_step | (with_reducible refine wpStill_nil ?_) | (with_reducible refine Flow.Both.mk ?_ ?_) | (with_reducible exact True.intro) | (with_reducible refine Flow.same_mk rfl rfl rfl ?_; go_simp; done) | (with_reducible exact Flow.same_un rfl rfl rfl) | (refine Flow.region_still mixed ?hB ?_; (case hB => decide +kernel)))
    go_at_call 13
    refine (sign_is op _ (HT.out.fr HF.out)).mono ?_
    rintro e w2 ⟨rfl, rfl⟩
    go_wp2_with (first | fail | still_step | (with_reducible refine wpStill_nil ?_) | (with_reducible refine Flow.Both.mk ?_ ?_) | (with_reducible exact True.intro) | (with_reducible refine Flow.same_mk rfl rfl rfl ?_; go_simp; done) | (with_reducible exact Flow.same_un rfl rfl rfl) | (refine Flow.region_still mixed ?hB ?_; (case hB => decide +kernel)))
    go_at_call 14
    refine (rsign_is op _).mono ?_
    rintro e w3 ⟨rfl, hf⟩
    have HF3 := hid (HF.out.trans hf (fun _ _ h => h))
    clear hf
    generalize bytesV (signL op) = d
    go_wp2_with (first | fail | still_step | (with_reducible refine wpStill_nil ?_) | (with_reducible refine Flow.Both.mk ?_ ?_) | (with_reducible exact True.intro) | (with_reducible refine Flow.same_mk rfl rfl rfl ?_; go_simp; done) | (with_reducible exact Flow.same_un rfl rfl rfl) | (refine Flow.region_still mixed ?hB ?_; (case hB => decide +kernel)))
    go_at_call 15
    refine (op_is s _ (HT.out.fr HF3.out)).mono ?_
    rintro e w4 ⟨rfl, rfl⟩
    go_wp2_with (first | fail | still_step | (with_reducible refine wpStill_nil ?_) | (with_reducible refine Flow.Both.mk ?_ ?_) | (with_reducible exact True.intro) | (with_reducible refine Flow.same_mk rfl rfl rfl ?_; go_simp; done) | (with_reducible exact Flow.same_un rfl rfl rfl) | (refine Flow.region_still mixed ?hB ?_; (case hB => decide +kernel)))
    go_at_call 16
    refine (rop_is s _).mono ?_
    rintro e w5 ⟨rfl, hf⟩
    have HF5 := hid (HF3.out.trans hf (fun _ _ h => h))
    clear hf
    generalize opL s = o
    go_wp2_with (first | fail | still_step | (with_reducible refine wpStill_nil ?_) | (with_reducible refine Flow.Both.mk ?_ ?_) | (with_reducible exact True.intro) | (with_reducible refine Flow.same_mk rfl rfl rfl ?_; go_simp; done) | (with_reducible exact Flow.same_un rfl rfl rfl) | (refine Flow.region_still mixed ?hB ?_; (case hB => decide +kernel)))
    go_at_call 17
    refine (rank_is op _ (HT.out.fr HF5.out)).mono ?_
    rintro e w6 ⟨rfl, rfl⟩
    go_wp2_with (first | fail | still_step | (with_reducible refine wpStill_nil ?_) | (with_reducible refine Flow.Both.mk ?_ ?_) | (with_reducible exact True.intro) | (with_reducible refine Flow.same_mk rfl rfl rfl ?_; go_simp; done) | (with_reducible exact Flow.same_un rfl rfl rfl) | (refine Flow.region_still mixed ?hB ?_; (case hB => decide +kernel)))
    go_at_call 18
    refine (rrank_is op _).mono ?_
    rintro e w7 ⟨rfl, hf⟩
    have HF7 := hid (HF5.out.trans hf (fun _ _ h => h))
    clear hf
    generalize rankL op = rk
    go_wp2_with (first | fail | still_step | (with_reducible refine wpStill_nil ?_) | (with_reducible refine Flow.Both.mk ?_ ?_) | (with_reducible exact True.intro) | (with_reducible refine Flow.same_mk rfl rfl rfl ?_; go_simp; done) | (with_reducible exact Flow.same_un rfl rfl rfl) | (refine Flow.region_still mixed ?hB ?_; (case hB => decide +kernel)))
    go_at_call 19
    refine (truth_is op _).mono ?_
    rintro e w8 ⟨rfl, rfl⟩
    have h3 : (10 ≤ op ∧ op ≤ 18) ∨ op < 10 ∨ (10 ≤ op ∧ 18 < op) := by omega
    rcases h3 with ⟨h1, h2⟩ | h1 | ⟨h1, h2⟩
    · rw [show truthL op = true by unfold truthL; simp [h1, h2]]
      go_wp2_with (first | fail | still_step | (with_reducible refine wpStill_nil ?_) | (with_reducible refine Flow.Both.mk ?_ ?_) | (with_reducible exact True.intro) | (with_reducible refine Flow.same_mk rfl rfl rfl ?_; go_simp; done) | (with_reducible exact Flow.same_un rfl rfl rfl) | (refine Flow.region_still mixed ?hB ?_; (case hB => decide +kernel)))
      go_ret
      exact ⟨by simp; try omega, HF7.out.below (Nat.le_refl _) (fun _ _ h => h)⟩
    · rw [show truthL op = false by unfold truthL; simp; omega]
      go_wp2_with (first | fail | still_step | (with_reducible refine wpStill_nil ?_) | (with_reducible refine Flow.Both.mk ?_ ?_) | (with_reducible exact True.intro) | (with_reducible refine Flow.same_mk rfl rfl rfl ?_; go_simp; done) | (with_reducible exact Flow.same_un rfl rfl rfl) | (refine Flow.region_still mixed ?hB ?_; (case hB => decide +kernel)))
      go_ret
      exact ⟨by simp; try omega, HF7.out.below (Nat.le_refl _) (fun _ _ h => h)⟩
    · rw [show truthL op = false by unfold truthL; simp; omega]
      go_wp2_with (first | fail | still_step | (with_reducible refine wpStill_nil ?_) | (with_reducible refine Flow.Both.mk ?_ ?_) | (with_reducible exact True.intro) | (with_reducible refine Flow.same_mk rfl rfl rfl ?_; go_simp; done) | (with_reducible exact Flow.same_un rfl rfl rfl) | (refine Flow.region_still mixed ?hB ?_; (case hB => decide +kernel)))
      go_ret
      exact ⟨by simp; try omega, HF7.out.below (Nat.le_refl _) (fun _ _ h => h)⟩
  · have h2 : 20 < s.size := by omega
    clear hl
    go_wp2_with (first | fail | still_step | (with_reducible refine wpStill_nil ?_) | (with_reducible refine Flow.Both.mk ?_ ?_) | (with_reducible exact True.intro) | (with_reducible refine Flow.same_mk rfl rfl rfl ?_; go_simp; done) | (with_reducible exact Flow.same_un rfl rfl rfl) | (refine Flow.region_still mixed ?hB ?_; (case hB => decide +kernel)))
    go_ret
    exact ⟨by simp; try omega, HF.out.below (Nat.le_refl _) (fun _ _ h => h)⟩
end Go.Proofs.YtonjhjkhmjfngaaDoor
