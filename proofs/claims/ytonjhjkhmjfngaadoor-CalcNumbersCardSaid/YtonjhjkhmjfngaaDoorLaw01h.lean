/-
  CalcShifts: the law's walk.
-/
import Derived.Test.YtonjhjkhmjfngaaDoorLaw01s
namespace Go.Proofs.YtonjhjkhmjfngaaDoor
open Go.RowKit
attribute [local irreducible] wpStill wpList Calls CallsIn

theorem and63 (n : Int) : bits .and .i64 n 63 = n % 64 := by
  have h1 : (BitVec.ofInt 64 63).toNat = 2 ^ 6 - 1 := by decide
  show IntKind.i64.wrap ((BitVec.ofInt 64 n &&& BitVec.ofInt 64 63).toNat : Nat) = n % 64
  rw [BitVec.toNat_and, BitVec.toNat_ofInt, h1, Nat.and_two_pow_sub_one_eq_mod, IntKind.wrap_i64]
  omega

theorem wrap_in {n : Int} (h : inI n) : wrap64 n = n := by
  obtain ⟨h1, h2⟩ := h
  unfold wrap64
  omega

theorem shl_eq (a b : Int) : evalZ 8 a b = wrap64 (a * 2 ^ (b % 64).toNat) := by
  show wrap64 (a * 2 ^ min (bits .and .i64 b 63).toNat 64) = _
  rw [and63, show min (b % 64).toNat 64 = (b % 64).toNat by omega]
theorem shr_eq (a b : Int) : evalZ 9 a b = a / 2 ^ (b % 64).toNat := by
  show a / 2 ^ min (bits .and .i64 b 63).toNat 64 = _
  rw [and63, show min (b % 64).toNat 64 = (b % 64).toNat by omega]

/-- What is asked, with n the rest of 64. -/
theorem shift_facts (a b : Int) (ha : inI a) (n : Int) (hn : n = b % 64) (l r : Int) (hl : l = evalZ 8 a n) (hr : r = evalZ 9 a n) :
    evalZ 8 a b = l ∧ evalZ 9 a b = r ∧ 0 ≤ n ∧ n ≤ 63 ∧ (n = 63 → evalZ 9 a 63 = r) ∧ (n < 63 → evalZ 8 a (n + 1) = evalZ 0 l l ∧ inI (2 * evalZ 9 a (n + 1)) ∧ 2 * evalZ 9 a (n + 1) ≤ r ∧ r - 2 * evalZ 9 a (n + 1) < 2 ∧ inI (r - 2 * evalZ 9 a (n + 1)) ∧ decide (0 ≤ a) = decide (0 ≤ r)) := by
  have h0 : 0 ≤ n := by omega
  have h63 : n ≤ 63 := by omega
  have hnn : n % 64 = n := by omega
  refine ⟨by rw [hl, shl_eq, shl_eq, hnn, hn], by rw [hr, shr_eq, shr_eq, hnn, hn], h0, h63, fun h => by rw [hr, h], fun h => ?_⟩
  obtain ⟨N, hN⟩ : ∃ N : Nat, n = N := ⟨n.toNat, by omega⟩
  subst hN
  have e1 : ((N : Int) + 1) % 64 = ((N + 1 : Nat) : Int) := by omega
  have e2 : ((N : Int) % 64).toNat = N := by omega
  have hl2 : l = wrap64 (a * 2 ^ N) := by rw [hl, shl_eq, e2]
  have hr2 : r = a / 2 ^ N := by rw [hr, shr_eq, e2]
  have hh : evalZ 9 a ((N : Int) + 1) = r / 2 := by
    rw [shr_eq, e1, Int.toNat_natCast, hr2, Int.pow_succ, ← Int.ediv_ediv_of_nonneg (Int.le_of_lt (Int.pow_pos (by decide)))]
  have hri : inI r := by
    obtain ⟨a1, a2⟩ := ha
    have hp0 : (0 : Int) < 2 ^ N := Int.pow_pos (by decide)
    have hp : (1 : Int) ≤ 2 ^ N := by omega
    rw [hr2]
    by_cases hs : 0 ≤ a
    · have := Int.ediv_nonneg hs (by omega : (0 : Int) ≤ 2 ^ N)
      have := Int.ediv_le_self (2 ^ N) hs
      exact ⟨by omega, by omega⟩
    · have h1 : a / 2 ^ N < 0 := Int.ediv_neg_of_neg_of_pos (by omega) (by omega)
      have h2 : a ≤ a / 2 ^ N := by
        rw [Int.le_ediv_iff_mul_le (by omega)]
        have := Int.mul_le_mul_of_nonpos_left (a := a) (by omega) hp
        omega
      exact ⟨by omega, by omega⟩
  rw [hh]
  obtain ⟨r1, r2⟩ := hri
  refine ⟨?_, ⟨by omega, by omega⟩, by omega, by omega, ⟨by omega, by omega⟩, ?_⟩
  · rw [shl_eq, e1, Int.toNat_natCast]
    show _ = wrap64 (l + l)
    rw [hl2, Int.pow_succ, ← Int.mul_assoc]
    generalize a * 2 ^ N = x
    unfold wrap64
    omega
  · have hp : (0 : Int) < 2 ^ N := Int.pow_pos (by decide)
    simp only [decide_eq_decide]
    rw [hr2]
    constructor
    · intro h; exact Int.ediv_nonneg h (by omega)
    · intro h
      rcases Int.lt_or_le a 0 with h1 | h1
      · have := Int.ediv_neg_of_neg_of_pos h1 hp; omega
      · exact h1


set_option maxHeartbeats 4000000 in
set_option maxRecDepth 100000 in
theorem shifts_walk (a b : Int) (ha : inI a) (w : World) (ht : Tabs w) : Calls Tryd.prog 8 #[.int .i64 a, .int .i64 b] w fun e w' => e = .returned (.bool true) ∧ Below w.heap.size w w' := by
  obtain ⟨n, hn⟩ : ∃ n, n = b % 64 := ⟨_, rfl⟩
  obtain ⟨l, hl⟩ : ∃ l, l = evalZ 8 a n := ⟨_, rfl⟩
  obtain ⟨r, hr⟩ : ∃ r, r = evalZ 9 a n := ⟨_, rfl⟩
  obtain ⟨f1, f2, f3, f4, f5, f6⟩ := shift_facts a b ha n hn l r hl hr
  have hnb : bits .and .i64 b 63 = n := by rw [and63]; exact hn.symm
  have F := hid (⟨hl.symm, hr.symm, f1, f2⟩ : evalZ 8 a n = l ∧ evalZ 9 a n = r ∧ evalZ 8 a b = l ∧ evalZ 9 a b = r)
  by_cases h63 : n = 63
  · have F5 := hid (f5 h63)
    clear f1 f2 f5 f6 hl hr hn
    subst h63
    have HT := hid ht
    clear ht
    go_enter Tryd.func8, Tryd.ntmps8
    go_wp2_with (first | fail | still_step | (with_reducible refine wpStill_nil ?_) | (with_reducible refine Flow.Both.mk ?_ ?_) | (with_reducible exact True.intro) | (with_reducible refine Flow.same_mk rfl rfl rfl ?_; go_simp; done) | (with_reducible exact Flow.same_un rfl rfl rfl) | (refine Flow.region_still mixed ?hB ?_; (case hB => decide +kernel)))
    go_at_call 10
    refine (awake_true w HT.out).mono ?_
    rintro e w1 ⟨rfl, hf⟩
    have HF := hid hf
    clear hf
    go_wp2_with (first | (go_at_call 11; refine (eval_is _ _ _ _).mono ?_; rintro e wn ⟨rfl, hf⟩; simp only [F.out.1, F.out.2.1, F.out.2.2.1, F.out.2.2.2]; have HFn := hid (HF.out.trans hf (fun _ _ h => h)); clear HF hf; have HF := hid HFn.out; clear HFn) | still_step | (with_reducible refine wpStill_nil ?_) | (with_reducible refine Flow.Both.mk ?_ ?_) | (with_reducible exact True.intro) | (with_reducible refine Flow.same_mk rfl rfl rfl ?_; go_simp; done) | (with_reducible exact Flow.same_un rfl rfl rfl) | (refine Flow.region_still mixed ?hB ?_; (case hB => decide +kernel)))
    go_ret
    exact ⟨by simp, HF.out.below (Nat.le_refl _) (fun _ _ h => h)⟩
  · obtain ⟨g1, g2, g3, g4, g5, g6⟩ := f6 (by omega)
    obtain ⟨hf, hhf⟩ : ∃ hf, hf = evalZ 9 a (n + 1) := ⟨_, rfl⟩
    obtain ⟨ll, hll⟩ : ∃ ll, ll = evalZ 0 l l := ⟨_, rfl⟩
    rw [← hhf] at g2 g3 g4 g5
    rw [← hll] at g1
    have G := hid (⟨g1, hhf.symm, hll.symm⟩ : evalZ 8 a (n + 1) = ll ∧ evalZ 9 a (n + 1) = hf ∧ evalZ 0 l l = ll)
    have w1' : wrap64 (2 * hf) = 2 * hf := wrap_in g2
    have w2' : wrap64 (r - 2 * hf) = r - 2 * hf := wrap_in g5
    have hnb3 : (n == 63) = false := by simpa using h63
    clear f1 f2 f5 f6 hl hr hn g1 hhf hll g2 g5
    have HT := hid ht
    clear ht
    go_enter Tryd.func8, Tryd.ntmps8
    go_wp2_with (first | fail | still_step | (with_reducible refine wpStill_nil ?_) | (with_reducible refine Flow.Both.mk ?_ ?_) | (with_reducible exact True.intro) | (with_reducible refine Flow.same_mk rfl rfl rfl ?_; go_simp; done) | (with_reducible exact Flow.same_un rfl rfl rfl) | (refine Flow.region_still mixed ?hB ?_; (case hB => decide +kernel)))
    go_at_call 10
    refine (awake_true w HT.out).mono ?_
    rintro e w1 ⟨rfl, hf⟩
    have HF := hid hf
    clear hf
    go_wp2_with (first | (go_at_call 11; refine (eval_is _ _ _ _).mono ?_; rintro e wn ⟨rfl, hf⟩; simp only [F.out.1, F.out.2.1, F.out.2.2.1, F.out.2.2.2, G.out.1, G.out.2.1, G.out.2.2]; have HFn := hid (HF.out.trans hf (fun _ _ h => h)); clear HF hf; have HF := hid HFn.out; clear HFn) | still_step | (with_reducible refine wpStill_nil ?_) | (with_reducible refine Flow.Both.mk ?_ ?_) | (with_reducible exact True.intro) | (with_reducible refine Flow.same_mk rfl rfl rfl ?_; go_simp; done) | (with_reducible exact Flow.same_un rfl rfl rfl) | (refine Flow.region_still mixed ?hB ?_; (case hB => decide +kernel)))
    go_ret
    exact ⟨by simp, HF.out.below (Nat.le_refl _) (fun _ _ h => h)⟩
end Go.Proofs.YtonjhjkhmjfngaaDoor
