/-
  CalcNumbers: the law's walk.
-/
import Derived.Test.YtonjhjkhmjfngaaDoorRef01m
namespace Go.Proofs.YtonjhjkhmjfngaaDoor
open Go.RowKit
attribute [local irreducible] wpStill wpList Calls CallsIn

set_option maxHeartbeats 4000000 in
set_option maxRecDepth 100000 in
theorem numbers_walk (n : Int) (hn : inI n) (s : ByteArray) (w : World) (ht : Tabs w) (hsz : s.size ≤ 140737488351232) : Calls Tryd.prog 5 #[.int .i64 n, .string s] w fun e w' => e = .returned (.bool true) ∧ Below w.heap.size w w' := by
  have HT := hid ht
  have HN := hid hn
  clear ht hn
  go_enter Tryd.func5, Tryd.ntmps5
  go_wp2_with (first | fail | still_step | (with_reducible refine wpStill_nil ?_) | (with_reducible refine Flow.Both.mk ?_ ?_) | (with_reducible exact True.intro) | (with_reducible refine Flow.same_mk rfl rfl rfl ?_; go_simp; done) | (with_reducible exact Flow.same_un rfl rfl rfl) | (refine Flow.region_still mixed ?hB ?_; (case hB => decide +kernel)))
  go_at_call 10
  refine (awake_true w HT.out).mono ?_
  rintro e w1 ⟨rfl, hf⟩
  have HF := hid hf
  clear hf
  by_cases hl : s.size ≤ 60
  · obtain ⟨q, hq⟩ : ∃ q, q = numL s.data.toList := ⟨_, rfl⟩
    have hnum := fun w1 ht => number_is s (by omega) w1 ht
    have hrn := rnumber_is s hl
    rw [← hq] at hnum hrn
    have HNUM := hid hnum
    have HRN := hid hrn
    have hq0 : q.2 = true ∨ q = (0, false) := by
      rw [hq]
      unfold numL
      split
      · split
        · exact .inl rfl
        · exact .inr rfl
      · exact .inr rfl
    clear hnum hrn hq
    go_wp2_with (first | fail | still_step | (with_reducible refine wpStill_nil ?_) | (with_reducible refine Flow.Both.mk ?_ ?_) | (with_reducible exact True.intro) | (with_reducible refine Flow.same_mk rfl rfl rfl ?_; go_simp; done) | (with_reducible exact Flow.same_un rfl rfl rfl) | (refine Flow.region_still mixed ?hB ?_; (case hB => decide +kernel)))
    go_at_call 20
    refine (HNUM.out _ (HT.out.fr HF.out)).mono ?_
    rintro e w2 ⟨rfl, hf⟩
    have HF2 := hid (HF.out.trans hf (fun _ _ h => h))
    clear hf
    go_wp2_with (first | fail | still_step | (with_reducible refine wpStill_nil ?_) | (with_reducible refine Flow.Both.mk ?_ ?_) | (with_reducible exact True.intro) | (with_reducible refine Flow.same_mk rfl rfl rfl ?_; go_simp; done) | (with_reducible exact Flow.same_un rfl rfl rfl) | (refine Flow.region_still mixed ?hB ?_; (case hB => decide +kernel)))
    go_at_call 21
    refine (HRN.out _).mono ?_
    rintro e w3 ⟨⟨v, rfl, hv⟩, hf⟩
    have HF3 := hid (HF2.out.trans hf (fun _ _ h => h))
    clear hf
    go_wp2_with (first | fail | still_step | (with_reducible refine wpStill_nil ?_) | (with_reducible refine Flow.Both.mk ?_ ?_) | (with_reducible exact True.intro) | (with_reducible refine Flow.same_mk rfl rfl rfl ?_; go_simp; done) | (with_reducible exact Flow.same_un rfl rfl rfl) | (refine Flow.region_still mixed ?hB ?_; (case hB => decide +kernel)))
    go_at_call 22
    refine (digits_is n HN.out.1 HN.out.2 _ (HT.out.fr HF3.out)).mono ?_
    rintro e w4 ⟨rfl, hf⟩
    have HF4 := hid (HF3.out.trans hf (fun _ _ h => h))
    clear hf
    go_wp2_with (first | fail | still_step | (with_reducible refine wpStill_nil ?_) | (with_reducible refine Flow.Both.mk ?_ ?_) | (with_reducible exact True.intro) | (with_reducible refine Flow.same_mk rfl rfl rfl ?_; go_simp; done) | (with_reducible exact Flow.same_un rfl rfl rfl) | (refine Flow.region_still mixed ?hB ?_; (case hB => decide +kernel)))
    go_at_call 23
    refine (rdigits_is n HN.out _).mono ?_
    rintro e w5 ⟨rfl, hf⟩
    have HF5 := hid (HF4.out.trans hf (fun _ _ h => h))
    clear hf
    generalize bytesV (Lib.itoa n) = z
    rcases hq0 with h | rfl
    · obtain ⟨q1, q2⟩ := q
      dsimp only at h hv ⊢
      subst h
      obtain rfl := hv rfl
      go_wp2_with (first | fail | still_step | (with_reducible refine wpStill_nil ?_) | (with_reducible refine Flow.Both.mk ?_ ?_) | (with_reducible exact True.intro) | (with_reducible refine Flow.same_mk rfl rfl rfl ?_; go_simp; done) | (with_reducible exact Flow.same_un rfl rfl rfl) | (refine Flow.region_still mixed ?hB ?_; (case hB => decide +kernel)))
      go_ret
      exact ⟨by simp, HF5.out.below (Nat.le_refl _) (fun _ _ h => h)⟩
    · clear hv
      go_wp2_with (first | fail | still_step | (with_reducible refine wpStill_nil ?_) | (with_reducible refine Flow.Both.mk ?_ ?_) | (with_reducible exact True.intro) | (with_reducible refine Flow.same_mk rfl rfl rfl ?_; go_simp; done) | (with_reducible exact Flow.same_un rfl rfl rfl) | (refine Flow.region_still mixed ?hB ?_; (case hB => decide +kernel)))
      go_ret
      exact ⟨by simp, HF5.out.below (Nat.le_refl _) (fun _ _ h => h)⟩
  · have hl2 : 60 < s.size := by omega
    clear hl
    go_wp2_with (first | fail | still_step | (with_reducible refine wpStill_nil ?_) | (with_reducible refine Flow.Both.mk ?_ ?_) | (with_reducible exact True.intro) | (with_reducible refine Flow.same_mk rfl rfl rfl ?_; go_simp; done) | (with_reducible exact Flow.same_un rfl rfl rfl) | (refine Flow.region_still mixed ?hB ?_; (case hB => decide +kernel)))
    go_ret
    exact ⟨by simp; try omega, HF.out.below (Nat.le_refl _) (fun _ _ h => h)⟩
end Go.Proofs.YtonjhjkhmjfngaaDoor
