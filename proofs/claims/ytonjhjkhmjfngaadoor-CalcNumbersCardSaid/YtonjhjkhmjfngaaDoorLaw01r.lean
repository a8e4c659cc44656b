/-
  CalcRest: the law's walk.
-/
import Derived.Test.YtonjhjkhmjfngaaDoorLaw01h
namespace Go.Proofs.YtonjhjkhmjfngaaDoor
open Go.RowKit
attribute [local irreducible] wpStill wpList Calls CallsIn

theorem nat_and_or : ∀ (x y : Nat), (x &&& y) + (x ||| y) = x + y := by
  intro x
  induction x using Nat.strongRecOn with
  | ind x ih =>
    intro y
    by_cases hx : x = 0
    · subst hx; simp
    · have h := ih (x / 2) (by omega) (y / 2)
      have e1 : (x &&& y) / 2 = x / 2 &&& y / 2 := Nat.and_div_two
      have e2 : (x ||| y) / 2 = x / 2 ||| y / 2 := Nat.or_div_two
      have m1 : (x &&& y) % 2 = 1 ↔ x % 2 = 1 ∧ y % 2 = 1 := Nat.and_mod_two_eq_one
      have m2 : (x ||| y) % 2 = 1 ↔ x % 2 = 1 ∨ y % 2 = 1 := Nat.or_mod_two_eq_one
      rw [← e1, ← e2] at h
      generalize x &&& y = u at *
      generalize x ||| y = v at *
      omega

theorem ofInt_wrap (x : BitVec 64) : BitVec.ofInt 64 (IntKind.i64.wrap (x.toNat : Int)) = x := by
  rw [IntKind.wrap_i64]
  have := x.isLt
  apply BitVec.eq_of_toNat_eq
  rw [BitVec.toNat_ofInt]
  omega

theorem wrap_ofInt (a : Int) (h : inI a) : IntKind.i64.wrap ((BitVec.ofInt 64 a).toNat : Int) = a := by
  obtain ⟨h1, h2⟩ := h
  rw [IntKind.wrap_i64, BitVec.toNat_ofInt]
  omega

theorem xor_xor (a b : Int) (h : inI a) : evalZ 7 (evalZ 7 a b) b = a := by
  show IntKind.i64.wrap ((BitVec.ofInt 64 (IntKind.i64.wrap ((BitVec.ofInt 64 a ^^^ BitVec.ofInt 64 b).toNat : Nat)) ^^^ BitVec.ofInt 64 b).toNat : Nat) = a
  rw [ofInt_wrap, BitVec.xor_assoc, BitVec.xor_self, BitVec.xor_zero]
  exact wrap_ofInt a h

theorem e0 (x y : Int) : evalZ 0 x y = wrap64 (x + y) := rfl
theorem e5 (a b : Int) : evalZ 5 a b = IntKind.i64.wrap ((BitVec.ofInt 64 a &&& BitVec.ofInt 64 b).toNat : Nat) := rfl
theorem e6 (a b : Int) : evalZ 6 a b = IntKind.i64.wrap ((BitVec.ofInt 64 a ||| BitVec.ofInt 64 b).toNat : Nat) := rfl
theorem mod_nat (a : Int) : ((BitVec.ofInt 64 a).toNat : Int) = a % 18446744073709551616 := by
  rw [BitVec.toNat_ofInt]
  omega

theorem wrapK (n : Int) : ∃ k, IntKind.i64.wrap n = n + k * 18446744073709551616 := ⟨-((n + 9223372036854775808) / 18446744073709551616), by rw [IntKind.wrap_i64]; omega⟩
theorem modK (n : Int) : ∃ k, n % 18446744073709551616 = n + k * 18446744073709551616 := ⟨-(n / 18446744073709551616), by omega⟩
theorem wrap64_shift (n k : Int) : wrap64 (n + k * 18446744073709551616) = wrap64 n := by
  unfold wrap64
  rw [show n + k * 18446744073709551616 + 9223372036854775808 = (n + 9223372036854775808) + k * 18446744073709551616 by omega, Int.add_mul_emod_self_right]

theorem sum_core (a b : Int) (u v x y : Nat) (h : u + v = x + y) (ha : (x : Int) = a % 18446744073709551616) (hb : (y : Int) = b % 18446744073709551616) :
    wrap64 (IntKind.i64.wrap (u : Int) + IntKind.i64.wrap (v : Int)) = wrap64 (a + b) := by
  obtain ⟨k1, h1⟩ := wrapK u
  obtain ⟨k2, h2⟩ := wrapK v
  obtain ⟨k3, h3⟩ := modK a
  obtain ⟨k4, h4⟩ := modK b
  rw [h1, h2]
  have e : (u : Int) + k1 * 18446744073709551616 + (v + k2 * 18446744073709551616) = (a + b) + (k1 + k2 + k3 + k4) * 18446744073709551616 := by
    rw [h3] at ha
    rw [h4] at hb
    omega
  rw [e, wrap64_shift]

theorem and_or (a b : Int) : evalZ 0 (evalZ 5 a b) (evalZ 6 a b) = evalZ 0 a b := by
  have h : (BitVec.ofInt 64 a &&& BitVec.ofInt 64 b).toNat + (BitVec.ofInt 64 a ||| BitVec.ofInt 64 b).toNat = (BitVec.ofInt 64 a).toNat + (BitVec.ofInt 64 b).toNat := by
    rw [BitVec.toNat_and, BitVec.toNat_or]
    exact nat_and_or _ _
  have hc := sum_core a b _ _ _ _ h (mod_nat a) (mod_nat b)
  rw [← e5, ← e6, ← e0, ← e0] at hc
  exact hc

theorem quot_rest (a b : Int) (ha : inI a) (hb : inI b) (q r : Int) (hq : q = evalZ 3 a b) (hr : r = evalZ 4 a b) :
    evalZ 0 (evalZ 2 q b) r = a ∧ (0 < b → r < b ∧ -b < r) := by
  have hq2 : q = divZ a b := hq
  have hr2 : r = IntKind.i64.wrap (a - IntKind.i64.wrap (b * q)) := by rw [hr, hq2]; rfl
  have hai := ha
  obtain ⟨a1, a2⟩ := ha
  obtain ⟨b1, b2⟩ := hb
  constructor
  · show wrap64 (wrap64 (q * b) + r) = a
    rw [hr2, IntKind.wrap_i64, IntKind.wrap_i64, Int.mul_comm b q]
    generalize q * b = x
    unfold wrap64
    omega
  · intro hpos
    have hd : q = a.tdiv b := by
      rw [hq2]
      unfold divZ
      rw [if_neg (by omega), if_neg (by omega)]
      apply wrap_in
      have h1 := Int.tdiv_le_self (a := a) b
      by_cases hs : 0 ≤ a
      · have := Int.tdiv_nonneg hs (by omega : (0 : Int) ≤ b)
        have h2 : a.tdiv b ≤ a := Int.tdiv_le_self b hs
        exact ⟨by omega, by omega⟩
      · have h3 := Int.neg_tdiv (a := a) (b := b)
        have h4 := Int.tdiv_nonneg (by omega : (0 : Int) ≤ -a) (by omega : (0 : Int) ≤ b)
        have h2 : (-a).tdiv b ≤ -a := Int.tdiv_le_self b (by omega)
        exact ⟨by omega, by omega⟩
    have hm : a - b * q = a.tmod b := by
      have := Int.mul_tdiv_add_tmod a b
      rw [hd]; omega
    have hm1 : a.tmod b < b := Int.tmod_lt_of_pos a hpos
    have hm2 : -b < a.tmod b := by
      by_cases hs : 0 ≤ a
      · have := Int.tmod_nonneg b hs; omega
      · have := Int.neg_tmod (a := a) (b := b)
        have h5 := Int.tmod_lt_of_pos (-a) hpos
        omega
    have hr3 : r = a.tmod b := by
      rw [hr2, IntKind.wrap_i64, IntKind.wrap_i64]
      generalize b * q = x at *
      omega
    rw [hr3]
    exact ⟨hm1, hm2⟩

theorem truth01 (i : Nat) (a b : Int) (h1 : 10 ≤ i) (h2 : i < 19) : evalZ i a b = 0 ∨ evalZ i a b = 1 := by
  have key : ∀ c : Bool, toldZ c = 0 ∨ toldZ c = 1 := fun c => by cases c <;> simp [toldZ]
  have h : i = 10 ∨ i = 11 ∨ i = 12 ∨ i = 13 ∨ i = 14 ∨ i = 15 ∨ i = 16 ∨ i = 17 ∨ i = 18 := by omega
  rcases h with rfl | rfl | rfl | rfl | rfl | rfl | rfl | rfl | rfl
  · exact key _
  · exact key _
  · exact key _
  · exact key _
  · exact key _
  · exact key _
  · exact key _
  · exact key _
  · exact key _

theorem sub_add (a b : Int) (ha : inI a) : evalZ 1 (evalZ 0 a b) b = a := by
  show wrap64 (wrap64 (a + b) - b) = a
  obtain ⟨a1, a2⟩ := ha
  obtain ⟨k, hk⟩ := wrapK (a + b)
  have e : wrap64 (a + b) = a + b + k * 18446744073709551616 := by rw [IntKind.wrap_i64] at hk; unfold wrap64; exact hk
  rw [e, show a + b + k * 18446744073709551616 - b = a + k * 18446744073709551616 by omega, wrap64_shift]
  exact wrap_in ⟨a1, a2⟩

theorem one_of (a b : Int) : (evalZ 12 a b = 1 ∧ evalZ 10 a b = 0 ∧ evalZ 14 a b = 0) ∨ (evalZ 12 a b = 0 ∧ evalZ 10 a b = 1 ∧ evalZ 14 a b = 0) ∨ (evalZ 12 a b = 0 ∧ evalZ 10 a b = 0 ∧ evalZ 14 a b = 1) := by
  rw [e12, e10, e14]
  unfold toldZ
  rcases Int.lt_trichotomy a b with h | h | h
  · left
    rw [if_pos (by simpa using h), if_neg (by simp; omega), if_neg (by simp; omega)]
    exact ⟨rfl, rfl, rfl⟩
  · right; left
    rw [if_neg (by simp; omega), if_pos (by simpa using h), if_neg (by simp; omega)]
    exact ⟨rfl, rfl, rfl⟩
  · right; right
    rw [if_neg (by simp; omega), if_neg (by simp; omega), if_pos (by simpa using h)]
    exact ⟨rfl, rfl, rfl⟩


set_option maxHeartbeats 8000000 in
set_option maxRecDepth 100000 in
theorem rest_walk (a b : Int) (ha : inI a) (hb : inI b) (w : World) (ht : Tabs w) : Calls Tryd.prog 6 #[.int .i64 a, .int .i64 b] w fun e w' => e = .returned (.bool true) ∧ Below w.heap.size w w' := by
  obtain ⟨q, hq⟩ : ∃ q, q = evalZ 3 a b := ⟨_, rfl⟩
  obtain ⟨r, hr⟩ : ∃ r, r = evalZ 4 a b := ⟨_, rfl⟩
  obtain ⟨f1, f2⟩ := quot_rest a b ha hb q r hq hr
  obtain ⟨p, hp⟩ : ∃ p, p = evalZ 2 q b := ⟨_, rfl⟩
  rw [← hp] at f1
  have F := hid (⟨hq.symm, hr.symm, hp.symm, f1⟩ : evalZ 3 a b = q ∧ evalZ 4 a b = r ∧ evalZ 2 q b = p ∧ evalZ 0 p r = a)
  obtain ⟨x, hx⟩ : ∃ x, x = evalZ 0 a b := ⟨_, rfl⟩
  obtain ⟨y, hy⟩ : ∃ y, y = evalZ 7 a b := ⟨_, rfl⟩
  obtain ⟨u, hu⟩ : ∃ u, u = evalZ 5 a b := ⟨_, rfl⟩
  obtain ⟨v, hv⟩ : ∃ v, v = evalZ 6 a b := ⟨_, rfl⟩
  have g1 := sub_add a b ha
  have g2 := xor_xor a b ha
  have g3 := and_or a b
  rw [← hx] at g1 g3
  rw [← hy] at g2
  rw [← hu, ← hv] at g3
  have G := hid (⟨hx.symm, g1, hy.symm, g2, hu.symm, hv.symm, g3⟩ : evalZ 0 a b = x ∧ evalZ 1 x b = a ∧ evalZ 7 a b = y ∧ evalZ 7 y b = a ∧ evalZ 5 a b = u ∧ evalZ 6 a b = v ∧ evalZ 0 u v = x)
  have hbw : wrap64 (-b) = -b ∨ b = -9223372036854775808 := by
    by_cases h : b = -9223372036854775808
    · exact .inr h
    · exact .inl (wrap_in ⟨by have := hb.2; omega, by have := hb.1; omega⟩)
  clear hq hr hp f1 hx hy hu hv g1 g2 g3
  by_cases hpos : 0 < b
  · obtain ⟨r1, r2⟩ := f2 hpos
    have hw : wrap64 (-b) = -b := hbw.resolve_right (by omega)
    have r3 : ¬ b ≤ r := by omega
    have r4 : ¬ r ≤ -b := by omega
    clear f2 hbw r1 r2
    have HT := hid ht
    clear ht
    go_enter Tryd.func6, Tryd.ntmps6
    go_wp2_with (first | fail | still_step | (with_reducible refine wpStill_nil ?_) | (with_reducible refine Flow.Both.mk ?_ ?_) | (with_reducible exact True.intro) | (with_reducible refine Flow.same_mk rfl rfl rfl ?_; go_simp; done) | (with_reducible exact Flow.same_un rfl rfl rfl) | (refine Flow.region_still mixed ?hB ?_; (case hB => decide +kernel)))
    go_at_call 10
    refine (awake_true w HT.out).mono ?_
    rintro e w1 ⟨rfl, hf⟩
    have HF := hid hf
    clear hf
    go_wp2_with (first | (go_at_call 11; refine (eval_is _ _ _ _).mono ?_; rintro e wn ⟨rfl, hf⟩; simp only [F.out.1, F.out.2.1, F.out.2.2.1, F.out.2.2.2]; have HFn := hid (HF.out.trans hf (fun _ _ h => h)); clear HF hf; have HF := hid HFn.out; clear HFn) | still_step | (with_reducible refine wpStill_nil ?_) | (with_reducible refine Flow.Both.mk ?_ ?_) | (with_reducible exact True.intro) | (with_reducible refine Flow.same_mk rfl rfl rfl ?_; go_simp; done) | (with_reducible exact Flow.same_un rfl rfl rfl) | (refine Flow.region_still mixed ?hB ?_; (case hB => decide +kernel)))
    go_loopw [8] (fun i wr => ∃ k : Nat, 10 ≤ k ∧ k ≤ 19 ∧ i = .int .i64 k ∧ Fr (fun _ => False) w wr) (fun i _ => 19 - (intOf i).toNat)
    case atStart => exact ⟨10, Nat.le_refl _, by decide, rfl, HF.out⟩
    case round =>
      clear HF
      obtain ⟨k, hk1, hk2, rfl, hf⟩ := hrel
      have HF := hid hf
      clear hf
      by_cases hlt : k < 19
      · have ht := truth01 k a b hk1 hlt
        obtain ⟨v, hv⟩ : ∃ v, v = evalZ k a b := ⟨_, rfl⟩
        rw [← hv] at ht
        have HV := hid hv
        clear hv
        rcases ht with rfl | rfl
        · go_wp2_with (first | (go_at_call 11; refine (eval_is _ _ _ _).mono ?_; rintro e wn ⟨rfl, hf⟩; simp only [HV.out.symm]; have HFn := hid (HF.out.trans hf (fun _ _ h => h)); clear HF hf; have HF := hid HFn.out; clear HFn) | still_step | (with_reducible refine wpStill_nil ?_) | (with_reducible refine Flow.Both.mk ?_ ?_) | (with_reducible exact True.intro) | (with_reducible refine Flow.same_mk rfl rfl rfl ?_; go_simp; done) | (with_reducible exact Flow.same_un rfl rfl rfl) | (refine Flow.region_still mixed ?hB ?_; (case hB => decide +kernel)))
          go_roundw
          case rel =>
            have hrl : ∃ k_1 : Nat, 10 ≤ k_1 ∧ k_1 ≤ 19 ∧ (Value.int .i64 ((k : Int) + 1)) = .int .i64 k_1 ∧ Fr (fun _ => False) w wn := ⟨k + 1, by omega, by omega, by go_num, HF.out⟩
            first | exact hrl | ((repeat apply Exists.intro); exact ⟨hrl, rfl⟩)
          case measure => simp [intOf]; omega
        · go_wp2_with (first | (go_at_call 11; refine (eval_is _ _ _ _).mono ?_; rintro e wn ⟨rfl, hf⟩; simp only [HV.out.symm]; have HFn := hid (HF.out.trans hf (fun _ _ h => h)); clear HF hf; have HF := hid HFn.out; clear HFn) | still_step | (with_reducible refine wpStill_nil ?_) | (with_reducible refine Flow.Both.mk ?_ ?_) | (with_reducible exact True.intro) | (with_reducible refine Flow.same_mk rfl rfl rfl ?_; go_simp; done) | (with_reducible exact Flow.same_un rfl rfl rfl) | (refine Flow.region_still mixed ?hB ?_; (case hB => decide +kernel)))
          go_roundw
          case rel =>
            have hrl : ∃ k_1 : Nat, 10 ≤ k_1 ∧ k_1 ≤ 19 ∧ (Value.int .i64 ((k : Int) + 1)) = .int .i64 k_1 ∧ Fr (fun _ => False) w wn := ⟨k + 1, by omega, by omega, by go_num, HF.out⟩
            first | exact hrl | ((repeat apply Exists.intro); exact ⟨hrl, rfl⟩)
          case measure => simp [intOf]; omega
      · obtain rfl : k = 19 := by omega
        rcases one_of a b with ⟨o1, o2, o3⟩ | ⟨o1, o2, o3⟩ | ⟨o1, o2, o3⟩
        all_goals
          have O := hid (⟨o1, o2, o3⟩ : _ ∧ _ ∧ _)
          clear o1 o2 o3
          go_wp2_with (first | (go_at_call 11; refine (eval_is _ _ _ _).mono ?_; rintro e wn ⟨rfl, hf⟩; simp only [O.out.1, O.out.2.1, O.out.2.2, G.out.1, G.out.2.1, G.out.2.2.1, G.out.2.2.2.1, G.out.2.2.2.2.1, G.out.2.2.2.2.2.1, G.out.2.2.2.2.2.2]; have HFn := hid (HF.out.trans hf (fun _ _ h => h)); clear HF hf; have HF := hid HFn.out; clear HFn) | still_step | (with_reducible refine wpStill_nil ?_) | (with_reducible refine Flow.Both.mk ?_ ?_) | (with_reducible exact True.intro) | (with_reducible refine Flow.same_mk rfl rfl rfl ?_; go_simp; done) | (with_reducible exact Flow.same_un rfl rfl rfl) | (refine Flow.region_still mixed ?hB ?_; (case hB => decide +kernel)))
          go_ret
          exact ⟨by simp, HF.out.below (Nat.le_refl _) (fun _ _ h => h)⟩
  · clear f2 hbw
    have HT := hid ht
    clear ht
    go_enter Tryd.func6, Tryd.ntmps6
    go_wp2_with (first | fail | still_step | (with_reducible refine wpStill_nil ?_) | (with_reducible refine Flow.Both.mk ?_ ?_) | (with_reducible exact True.intro) | (with_reducible refine Flow.same_mk rfl rfl rfl ?_; go_simp; done) | (with_reducible exact Flow.same_un rfl rfl rfl) | (refine Flow.region_still mixed ?hB ?_; (case hB => decide +kernel)))
    go_at_call 10
    refine (awake_true w HT.out).mono ?_
    rintro e w1 ⟨rfl, hf⟩
    have HF := hid hf
    clear hf
    go_wp2_with (first | (go_at_call 11; refine (eval_is _ _ _ _).mono ?_; rintro e wn ⟨rfl, hf⟩; simp only [F.out.1, F.out.2.1, F.out.2.2.1, F.out.2.2.2]; have HFn := hid (HF.out.trans hf (fun _ _ h => h)); clear HF hf; have HF := hid HFn.out; clear HFn) | still_step | (with_reducible refine wpStill_nil ?_) | (with_reducible refine Flow.Both.mk ?_ ?_) | (with_reducible exact True.intro) | (with_reducible refine Flow.same_mk rfl rfl rfl ?_; go_simp; done) | (with_reducible exact Flow.same_un rfl rfl rfl) | (refine Flow.region_still mixed ?hB ?_; (case hB => decide +kernel)))
    go_loopw [8] (fun i wr => ∃ k : Nat, 10 ≤ k ∧ k ≤ 19 ∧ i = .int .i64 k ∧ Fr (fun _ => False) w wr) (fun i _ => 19 - (intOf i).toNat)
    case atStart => exact ⟨10, Nat.le_refl _, by decide, rfl, HF.out⟩
    case round =>
      clear HF
      obtain ⟨k, hk1, hk2, rfl, hf⟩ := hrel
      have HF := hid hf
      clear hf
      by_cases hlt : k < 19
      · have ht := truth01 k a b hk1 hlt
        obtain ⟨v, hv⟩ : ∃ v, v = evalZ k a b := ⟨_, rfl⟩
        rw [← hv] at ht
        have HV := hid hv
        clear hv
        rcases ht with rfl | rfl
        · go_wp2_with (first | (go_at_call 11; refine (eval_is _ _ _ _).mono ?_; rintro e wn ⟨rfl, hf⟩; simp only [HV.out.symm]; have HFn := hid (HF.out.trans hf (fun _ _ h => h)); clear HF hf; have HF := hid HFn.out; clear HFn) | still_step | (with_reducible refine wpStill_nil ?_) | (with_reducible refine Flow.Both.mk ?_ ?_) | (with_reducible exact True.intro) | (with_reducible refine Flow.same_mk rfl rfl rfl ?_; go_simp; done) | (with_reducible exact Flow.same_un rfl rfl rfl) | (refine Flow.region_still mixed ?hB ?_; (case hB => decide +kernel)))
          go_roundw
          case rel =>
            have hrl : ∃ k_1 : Nat, 10 ≤ k_1 ∧ k_1 ≤ 19 ∧ (Value.int .i64 ((k : Int) + 1)) = .int .i64 k_1 ∧ Fr (fun _ => False) w wn := ⟨k + 1, by omega, by omega, by go_num, HF.out⟩
            first | exact hrl | ((repeat apply Exists.intro); exact ⟨hrl, rfl⟩)
          case measure => simp [intOf]; omega
        · go_wp2_with (first | (go_at_call 11; refine (eval_is _ _ _ _).mono ?_; rintro e wn ⟨rfl, hf⟩; simp only [HV.out.symm]; have HFn := hid (HF.out.trans hf (fun _ _ h => h)); clear HF hf; have HF := hid HFn.out; clear HFn) | still_step | (with_reducible refine wpStill_nil ?_) | (with_reducible refine Flow.Both.mk ?_ ?_) | (with_reducible exact True.intro) | (with_reducible refine Flow.same_mk rfl rfl rfl ?_; go_simp; done) | (with_reducible exact Flow.same_un rfl rfl rfl) | (refine Flow.region_still mixed ?hB ?_; (case hB => decide +kernel)))
          go_roundw
          case rel =>
            have hrl : ∃ k_1 : Nat, 10 ≤ k_1 ∧ k_1 ≤ 19 ∧ (Value.int .i64 ((k : Int) + 1)) = .int .i64 k_1 ∧ Fr (fun _ => False) w wn := ⟨k + 1, by omega, by omega, by go_num, HF.out⟩
            first | exact hrl | ((repeat apply Exists.intro); exact ⟨hrl, rfl⟩)
          case measure => simp [intOf]; omega
      · obtain rfl : k = 19 := by omega
        rcases one_of a b with ⟨o1, o2, o3⟩ | ⟨o1, o2, o3⟩ | ⟨o1, o2, o3⟩
        all_goals
          have O := hid (⟨o1, o2, o3⟩ : _ ∧ _ ∧ _)
          clear o1 o2 o3
          go_wp2_with (first | (go_at_call 11; refine (eval_is _ _ _ _).mono ?_; rintro e wn ⟨rfl, hf⟩; simp only [O.out.1, O.out.2.1, O.out.2.2, G.out.1, G.out.2.1, G.out.2.2.1, G.out.2.2.2.1, G.out.2.2.2.2.1, G.out.2.2.2.2.2.1, G.out.2.2.2.2.2.2]; have HFn := hid (HF.out.trans hf (fun _ _ h => h)); clear HF hf; have HF := hid HFn.out; clear HFn) | still_step | (with_reducible refine wpStill_nil ?_) | (with_reducible refine Flow.Both.mk ?_ ?_) | (with_reducible exact True.intro) | (with_reducible refine Flow.same_mk rfl rfl rfl ?_; go_simp; done) | (with_reducible exact Flow.same_un rfl rfl rfl) | (refine Flow.region_still mixed ?hB ?_; (case hB => decide +kernel)))
          go_ret
          exact ⟨by simp, HF.out.below (Nat.le_refl _) (fun _ _ h => h)⟩
end Go.Proofs.YtonjhjkhmjfngaaDoor
