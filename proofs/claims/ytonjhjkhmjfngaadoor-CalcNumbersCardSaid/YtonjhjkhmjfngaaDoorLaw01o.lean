/-
  CalcOrder: the law's walk.
-/
import Derived.Test.YtonjhjkhmjfngaaDoorAwake01
namespace Go.Proofs.YtonjhjkhmjfngaaDoor
open Go.RowKit
attribute [local irreducible] wpStill wpList Calls CallsIn

theorem wrapU (a : Int) (h : inI a) : IntKind.u64.wrap a = if a < 0 then a + 18446744073709551616 else a := by
  obtain ⟨h1, h2⟩ := h
  rw [IntKind.wrap_u64]
  split <;> omega

theorem e10 (a b : Int) : evalZ 10 a b = toldZ (a == b) := rfl
theorem e11 (a b : Int) : evalZ 11 a b = toldZ (a != b) := rfl
theorem e12 (a b : Int) : evalZ 12 a b = toldZ (decide (a < b)) := rfl
theorem e13 (a b : Int) : evalZ 13 a b = toldZ (decide (a ≤ b)) := rfl
theorem e14 (a b : Int) : evalZ 14 a b = toldZ (decide (b < a)) := rfl
theorem e15 (a b : Int) : evalZ 15 a b = toldZ (decide (b ≤ a)) := rfl
theorem e16 (a b : Int) : evalZ 16 a b = toldZ (decide (IntKind.u64.wrap a < IntKind.u64.wrap b)) := rfl
theorem e17 (a b : Int) : evalZ 17 a b = toldZ (a != 0 && b != 0) := rfl
theorem e18 (a b : Int) : evalZ 18 a b = toldZ (a != 0 || b != 0) := rfl


/-- What the eight asked say, by the order and the signs. -/
theorem order_facts (a b : Int) (ha : inI a) (hb : inI b) (l bel : Int) (hl : l = evalZ 12 a b) (hbl : bel = evalZ 16 a b) :
    evalZ 14 b a = l ∧ evalZ 15 a b = 1 - l ∧ evalZ 13 b a = 1 - l ∧ (l = 0 ∨ l = 1) ∧ (evalZ 10 a b = 0 ∧ evalZ 11 a b = 1 ∨ evalZ 10 a b = 1 ∧ evalZ 11 a b = 0) ∧
    (decide (a < 0) = decide (b < 0) → bel = l) ∧ (decide (a < 0) ≠ decide (b < 0) → bel = 1 - l) ∧ evalZ 17 a b = evalZ 17 b a ∧ evalZ 18 a 0 = evalZ 11 a 0 := by
  subst hl hbl
  rw [e14, e15, e13, e12, e10, e11, e16, e17, e17, e18, e11, wrapU a ha, wrapU b hb]
  obtain ⟨h1, h2⟩ := ha
  obtain ⟨h3, h4⟩ := hb
  refine ⟨rfl, ?_, ?_, ?_, ?_, ?_, ?_, ?_, ?_⟩
  · unfold toldZ; by_cases h : a < b
    · rw [if_neg (by simp; omega), if_pos (by simp; omega)]; rfl
    · rw [if_pos (by simp; omega), if_neg (by simp; omega)]; rfl
  · unfold toldZ; by_cases h : a < b
    · rw [if_neg (by simp; omega), if_pos (by simp; omega)]; rfl
    · rw [if_pos (by simp; omega), if_neg (by simp; omega)]; rfl
  · unfold toldZ; split <;> simp
  · unfold toldZ; by_cases h : a = b
    · right; simp [h]
    · left; simp [h]
  · intro h
    unfold toldZ
    congr 1
    simp only [eq_iff_iff, decide_eq_true_eq]
    simp only [decide_eq_decide] at h
    split <;> split <;> omega
  · intro h
    have hd : (a < 0 ∧ ¬ b < 0) ∨ (¬ a < 0 ∧ b < 0) := by
      by_cases ha : a < 0 <;> by_cases hb : b < 0 <;> simp [ha, hb] at h ⊢
    unfold toldZ
    rcases hd with ⟨g1, g2⟩ | ⟨g1, g2⟩
    · rw [if_pos g1, if_neg g2, if_neg (by simp; omega), if_pos (by simp; omega)]; rfl
    · rw [if_neg g1, if_pos g2, if_pos (by simp; omega), if_neg (by simp; omega)]; rfl
  · rw [Bool.and_comm]
  · simp

set_option maxHeartbeats 4000000 in
set_option maxRecDepth 100000 in
theorem order_walk (a b : Int) (ha : inI a) (hb : inI b) (w : World) (ht : Tabs w) : Calls Tryd.prog 9 #[.int .i64 a, .int .i64 b] w fun e w' => e = .returned (.bool true) ∧ Below w.heap.size w w' := by
  obtain ⟨l, hl⟩ : ∃ l, l = evalZ 12 a b := ⟨_, rfl⟩
  obtain ⟨bel, hbl⟩ : ∃ bel, bel = evalZ 16 a b := ⟨_, rfl⟩
  obtain ⟨f1, f2, f3, f4, f5, f6, f7, f8, f9⟩ := order_facts a b ha hb l bel hl hbl
  have F := hid (⟨hl, hbl, f1, f2, f3, f8, f9⟩ : l = evalZ 12 a b ∧ bel = evalZ 16 a b ∧ evalZ 14 b a = l ∧ evalZ 15 a b = 1 - l ∧ evalZ 13 b a = 1 - l ∧ evalZ 17 a b = evalZ 17 b a ∧ evalZ 18 a 0 = evalZ 11 a 0)
  clear hl hbl f1 f2 f3 f8 f9
  have HT := hid ht
  clear ht
  go_enter Tryd.func9, Tryd.ntmps9
  go_wp2_with (first | fail | still_step | (with_reducible refine wpStill_nil ?_) | (with_reducible refine Flow.Both.mk ?_ ?_) | (with_reducible exact True.intro) | (with_reducible refine Flow.same_mk rfl rfl rfl ?_; go_simp; done) | (with_reducible exact Flow.same_un rfl rfl rfl) | (refine Flow.region_still mixed ?hB ?_; (case hB => decide +kernel)))
  go_at_call 10
  refine (awake_true w HT.out).mono ?_
  rintro e w1 ⟨rfl, hf⟩
  have HF := hid hf
  clear hf
  rcases f4 with rfl | rfl
  all_goals
    rcases f5 with ⟨g1, g2⟩ | ⟨g1, g2⟩
    all_goals
      have G := hid (⟨g1, g2⟩ : _ ∧ _)
      clear g1 g2
      by_cases hs : decide (a < 0) = decide (b < 0)
      · obtain rfl := f6 hs
        have hsb : (decide (a < 0) == decide (b < 0)) = true := beq_iff_eq.2 hs
        clear f6 f7 hs
        go_wp2_with (first | (go_at_call 11; refine (eval_is _ _ _ _).mono ?_; rintro e wn ⟨rfl, hf⟩; simp only [F.out.1.symm, F.out.2.1.symm, F.out.2.2.1, F.out.2.2.2.1, F.out.2.2.2.2.1,  G.out.1, G.out.2]; have HFn := hid (HF.out.trans hf (fun _ _ h => h)); clear HF hf; have HF := hid HFn.out; clear HFn) | still_step | (with_reducible refine wpStill_nil ?_) | (with_reducible refine Flow.Both.mk ?_ ?_) | (with_reducible exact True.intro) | (with_reducible refine Flow.same_mk rfl rfl rfl ?_; go_simp; done) | (with_reducible exact Flow.same_un rfl rfl rfl) | (refine Flow.region_still mixed ?hB ?_; (case hB => decide +kernel)))
        go_ret
        exact ⟨by simp, HF.out.below (Nat.le_refl _) (fun _ _ h => h)⟩
      · obtain rfl := f7 hs
        have hsb : (decide (a < 0) == decide (b < 0)) = false := beq_eq_false_iff_ne.2 hs
        clear f6 f7 hs
        go_wp2_with (first | (go_at_call 11; refine (eval_is _ _ _ _).mono ?_; rintro e wn ⟨rfl, hf⟩; simp only [F.out.1.symm, F.out.2.1.symm, F.out.2.2.1, F.out.2.2.2.1, F.out.2.2.2.2.1, F.out.2.2.2.2.2.1, F.out.2.2.2.2.2.2, G.out.1, G.out.2]; have HFn := hid (HF.out.trans hf (fun _ _ h => h)); clear HF hf; have HF := hid HFn.out; clear HFn) | still_step | (with_reducible refine wpStill_nil ?_) | (with_reducible refine Flow.Both.mk ?_ ?_) | (with_reducible exact True.intro) | (with_reducible refine Flow.same_mk rfl rfl rfl ?_; go_simp; done) | (with_reducible exact Flow.same_un rfl rfl rfl) | (refine Flow.region_still mixed ?hB ?_; (case hB => decide +kernel)))
        go_ret
        exact ⟨by simp, HF.out.below (Nat.le_refl _) (fun _ _ h => h)⟩
end Go.Proofs.YtonjhjkhmjfngaaDoor
