/-
  The reference of chapter 01: Eval answers as calc's does.
-/
import Derived.Test.YtonjhjkhmjfngaaDoorRef01
namespace Go.Proofs.YtonjhjkhmjfngaaDoor
open Go.RowKit
attribute [local irreducible] wpStill wpList Calls CallsIn

theorem wrap64_in (n : Int) : inI (wrap64 n) := by unfold wrap64 inI; omega

theorem shl_step (a : Int) (k : Nat) : wrap64 (wrap64 (a * 2 ^ k) * 2) = wrap64 (a * 2 ^ (k + 1)) := by
  rw [Int.pow_succ, ← Int.mul_assoc]
  generalize a * 2 ^ k = x
  obtain ⟨c, hc⟩ := wrapK x
  have e : wrap64 x = x + c * 18446744073709551616 := by rw [IntKind.wrap_i64] at hc; unfold wrap64; exact hc
  rw [e, show (x + c * 18446744073709551616) * 2 = x * 2 + (c * 2) * 18446744073709551616 by omega, wrap64_shift]

theorem half_in {a : Int} (h : inI a) : inI (a / 2) := by obtain ⟨h1, h2⟩ := h; exact ⟨by omega, by omega⟩
theorem tdiv2 (a : Int) : a.tdiv 2 = if a < 0 ∧ a % 2 ≠ 0 then a / 2 + 1 else a / 2 := by
  rw [Int.tdiv_eq_ediv]
  by_cases h : a < 0 ∧ a % 2 ≠ 0
  · rw [if_pos h, if_neg (by omega)]
    rfl
  · rw [if_neg h, if_pos (by omega), Int.add_zero]
theorem tmod2 (a : Int) : (a.tmod 2 = 0) ↔ (a % 2 = 0) := by
  have h1 := Int.mul_tdiv_add_tmod a 2
  rw [tdiv2] at h1
  split at h1 <;> omega

set_option maxHeartbeats 1000000 in
theorem shift_is (a b : Int) (ha : inI a) (_hb : inI b) (left : Bool) (w : World) : Calls Tryd.prog 46 #[.int .i64 a, .int .i64 b, .bool left] w fun e w' =>
    e = .returned (.int .i64 (if left then wrap64 (a * 2 ^ (b % 64).toNat) else a / 2 ^ (b % 64).toNat)) ∧ Fr (fun _ => False) w w' := by
  obtain ⟨N, hN⟩ : ∃ N : Nat, N = (b % 64).toNat := ⟨_, rfl⟩
  rw [← hN]
  have hmod : IntKind.u64.wrap b % 64 = (N : Int) := by rw [IntKind.wrap_u64]; omega
  have hN64 : N < 64 := by omega
  have hcnt : wrap64 ((IntKind.u64.wrap b).tmod 64) = (N : Int) := by
    rw [Int.tmod_eq_emod_of_nonneg (by rw [IntKind.wrap_u64]; omega), hmod]
    exact wrap_in ⟨by omega, by omega⟩
  have HN := hid hN
  clear hN hmod
  go_enter Tryd.func46, Tryd.ntmps46
  go_wp2_with (first | fail | still_step | (with_reducible refine wpStill_nil ?_) | (with_reducible refine Flow.Both.mk ?_ ?_) | (with_reducible exact True.intro) | (with_reducible refine Flow.same_mk rfl rfl rfl ?_; go_simp; done) | (with_reducible exact Flow.same_un rfl rfl rfl) | (refine Flow.region_still mixed ?hB ?_; (case hB => decide +kernel)))
  go_loopw [0, 8] (fun x i wr => ∃ k : Nat, k ≤ N ∧ i = .int .i64 k ∧ x = .int .i64 (if left then wrap64 (a * 2 ^ k) else a / 2 ^ k) ∧ inI (if left then wrap64 (a * 2 ^ k) else a / 2 ^ k) ∧ Fr (fun _ => False) w wr) (fun _ i _ => N - (intOf i).toNat)
  case atStart =>
    have e : (if left = true then wrap64 (a * 2 ^ 0) else a / 2 ^ 0) = a := by cases left <;> simp [wrap_in ha]
    exact ⟨0, Nat.zero_le _, rfl, by rw [e], by rw [e]; exact ha, Fr.refl _ _⟩
  case round =>
    obtain ⟨k, hk, rfl, rfl, hin, hf⟩ := hrel
    have HF := hid hf
    clear hf
    by_cases hlt : k < N
    · cases left with
      | true =>
        have hst := shl_step a k
        have HI := hid (wrap64_in (a * 2 ^ (k + 1)))
        obtain ⟨x, hx⟩ : ∃ x, x = wrap64 (a * 2 ^ k) := ⟨_, rfl⟩
        obtain ⟨x2, hx2⟩ : ∃ x2, x2 = wrap64 (a * 2 ^ (k + 1)) := ⟨_, rfl⟩
        rw [← hx, ← hx2] at hst
        rw [← hx2] at HI
        have HX2 := hid hx2
        simp only [if_true]
        rw [← hx]
        clear hin hx hx2
        go_wp2_with (first | fail | still_step | (with_reducible refine wpStill_nil ?_) | (with_reducible refine Flow.Both.mk ?_ ?_) | (with_reducible exact True.intro) | (with_reducible refine Flow.same_mk rfl rfl rfl ?_; go_simp; done) | (with_reducible exact Flow.same_un rfl rfl rfl) | (refine Flow.region_still mixed ?hB ?_; (case hB => decide +kernel)))
        go_roundw
        case rel =>
          have hrl : ∃ k_1 : Nat, k_1 ≤ N ∧ (Value.int .i64 ((k : Int) + 1)) = .int .i64 k_1 ∧ Value.int .i64 (wrap64 (x * 2)) = .int .i64 (wrap64 (a * 2 ^ k_1)) ∧ inI (wrap64 (a * 2 ^ k_1)) ∧ Fr (fun _ => False) w wr :=
            ⟨k + 1, by omega, by go_num, by rw [hst, HX2.out], by have := HI.out; rw [HX2.out] at this; exact this, HF.out⟩
          first | exact hrl | ((repeat apply Exists.intro); exact ⟨hrl, rfl⟩)
        case measure => simp [intOf]; omega
      | false =>
        have hx2 : (a / 2 ^ k) / 2 = a / 2 ^ (k + 1) := by rw [Int.pow_succ, ← Int.ediv_ediv_of_nonneg (Int.le_of_lt (Int.pow_pos (by decide)))]
        simp only [Bool.false_eq_true, if_false] at hin ⊢
        obtain ⟨x, hx⟩ : ∃ x, x = a / 2 ^ k := ⟨_, rfl⟩
        obtain ⟨x2, hx3⟩ : ∃ x2, x2 = a / 2 ^ (k + 1) := ⟨_, rfl⟩
        rw [← hx] at hin hx2
        rw [← hx3] at hx2
        rw [← hx]
        have hin2 := half_in hin
        rw [hx2] at hin2
        have HI := hid hin2
        have HX := hid hx3
        have ht2 := tdiv2 x
        have hm2 := tmod2 x
        obtain ⟨i1, i2⟩ := hin
        have hti : wrap64 (x.tdiv 2) = x.tdiv 2 := wrap_in (by rw [ht2]; split <;> exact ⟨by omega, by omega⟩)
        clear hx hx3 hin2
        by_cases hodd : x < 0 ∧ x % 2 ≠ 0
        · obtain ⟨o1, o2⟩ := hodd
          have o3 : ¬ x.tmod 2 = 0 := fun h => o2 (hm2.1 h)
          have o4 : (x.tmod 2 != 0) = true := by simpa using o3
          rw [if_pos ⟨o1, o2⟩] at ht2
          have ht3 : wrap64 (x.tdiv 2 - 1) = x2 := by rw [ht2, ← hx2, show x / 2 + 1 - 1 = x / 2 by omega]; exact wrap_in ⟨by omega, by omega⟩
          clear ht2 hm2 hx2 o2
          go_wp2_with (first | fail | still_step | (with_reducible refine wpStill_nil ?_) | (with_reducible refine Flow.Both.mk ?_ ?_) | (with_reducible exact True.intro) | (with_reducible refine Flow.same_mk rfl rfl rfl ?_; go_simp; done) | (with_reducible exact Flow.same_un rfl rfl rfl) | (refine Flow.region_still mixed ?hB ?_; (case hB => decide +kernel)))
          go_roundw
          case rel =>
            have hrl : ∃ k_1 : Nat, k_1 ≤ N ∧ (Value.int .i64 ((k : Int) + 1)) = .int .i64 k_1 ∧ Value.int .i64 (wrap64 (x.tdiv 2 - 1)) = .int .i64 (a / 2 ^ k_1) ∧ inI (a / 2 ^ k_1) ∧ Fr (fun _ => False) w wr :=
              ⟨k + 1, by omega, by go_num, by rw [ht3, HX.out], by have := HI.out; rw [HX.out] at this; exact this, HF.out⟩
            first | exact hrl | ((repeat apply Exists.intro); exact ⟨hrl, rfl⟩)
          case measure => simp [intOf]; omega
        · have ht3 : x.tdiv 2 = x2 := by rw [ht2, if_neg hodd, hx2]
          rw [ht3] at hti
          have ho : (x < 0 ∧ x.tmod 2 = 0) ∨ ¬ x < 0 := by
            by_cases h : x < 0
            · left
              refine ⟨h, hm2.2 ?_⟩
              by_cases h2 : x % 2 = 0
              · exact h2
              · exact absurd ⟨h, h2⟩ hodd
            · exact .inr h
          clear ht2 hm2 hx2 hodd
          rcases ho with ⟨o1, o2⟩ | o1
          all_goals
            go_wp2_with (first | fail | still_step | (with_reducible refine wpStill_nil ?_) | (with_reducible refine Flow.Both.mk ?_ ?_) | (with_reducible exact True.intro) | (with_reducible refine Flow.same_mk rfl rfl rfl ?_; go_simp; done) | (with_reducible exact Flow.same_un rfl rfl rfl) | (refine Flow.region_still mixed ?hB ?_; (case hB => decide +kernel)))
            go_roundw
            case rel =>
              have hrl : ∃ k_1 : Nat, k_1 ≤ N ∧ (Value.int .i64 ((k : Int) + 1)) = .int .i64 k_1 ∧ Value.int .i64 (wrap64 x2) = .int .i64 (a / 2 ^ k_1) ∧ inI (a / 2 ^ k_1) ∧ Fr (fun _ => False) w wr :=
                ⟨k + 1, by omega, by go_num, by rw [hti, HX.out], by have := HI.out; rw [HX.out] at this; exact this, HF.out⟩
              first | exact hrl | ((repeat apply Exists.intro); exact ⟨hrl, rfl⟩)
            case measure => simp [intOf]; omega
    · obtain rfl : k = N := by omega
      clear hin
      cases left with
      | true =>
        simp only [if_true]
        go_wp2_with (first | fail | still_step | (with_reducible refine wpStill_nil ?_) | (with_reducible refine Flow.Both.mk ?_ ?_) | (with_reducible exact True.intro) | (with_reducible refine Flow.same_mk rfl rfl rfl ?_; go_simp; done) | (with_reducible exact Flow.same_un rfl rfl rfl) | (refine Flow.region_still mixed ?hB ?_; (case hB => decide +kernel)))
        go_ret
        exact ⟨rfl, HF.out⟩
      | false =>
        simp only [Bool.false_eq_true, if_false]
        go_wp2_with (first | fail | still_step | (with_reducible refine wpStill_nil ?_) | (with_reducible refine Flow.Both.mk ?_ ?_) | (with_reducible exact True.intro) | (with_reducible refine Flow.same_mk rfl rfl rfl ?_; go_simp; done) | (with_reducible exact Flow.same_un rfl rfl rfl) | (refine Flow.region_still mixed ?hB ?_; (case hB => decide +kernel)))
        go_ret
        exact ⟨rfl, HF.out⟩


theorem shift_l (a b : Int) (ha : inI a) (hb : inI b) (w : World) : Calls Tryd.prog 46 #[.int .i64 a, .int .i64 b, .bool true] w fun e w' => e = .returned (.int .i64 (evalZ 8 a b)) ∧ Fr (fun _ => False) w w' := by
  have := shift_is a b ha hb true w
  rw [shl_eq]
  exact this
theorem shift_r (a b : Int) (ha : inI a) (hb : inI b) (w : World) : Calls Tryd.prog 46 #[.int .i64 a, .int .i64 b, .bool false] w fun e w' => e = .returned (.int .i64 (evalZ 9 a b)) ∧ Fr (fun _ => False) w w' := by
  have := shift_is a b ha hb false w
  rw [shr_eq]
  exact this

theorem reval0 (a b : Int) (w : World) : Calls Tryd.prog 12 #[.int .i64 0, .int .i64 a, .int .i64 b] w fun e w' => e = .returned (.int .i64 (evalZ 0 a b)) ∧ Fr (fun _ => False) w w' := by
  go_enter Tryd.func12, Tryd.ntmps12
  go_wp2_with (first | (go_at_call 47; refine (one_is _ _).mono ?_; rintro e w1 ⟨rfl, rfl⟩) | (go_at_call 45; refine (rdiv_is _ _ _).mono ?_; rintro e w1 ⟨rfl, rfl⟩) | still_step | (with_reducible refine wpStill_nil ?_) | (with_reducible refine Flow.Both.mk ?_ ?_) | (with_reducible exact True.intro) | (with_reducible refine Flow.same_mk rfl rfl rfl ?_; go_simp; done) | (with_reducible exact Flow.same_un rfl rfl rfl) | (refine Flow.region_still mixed ?hB ?_; (case hB => decide +kernel)))
  go_ret
  exact ⟨rfl, by (repeat' (first | with_reducible exact Fr.refl _ _ | with_reducible apply Fr.alloc | with_reducible apply Fr.drew | with_reducible apply Fr.drewN | (with_reducible refine Fr.setCell ?_ ?_ _)))⟩
theorem reval1 (a b : Int) (w : World) : Calls Tryd.prog 12 #[.int .i64 1, .int .i64 a, .int .i64 b] w fun e w' => e = .returned (.int .i64 (evalZ 1 a b)) ∧ Fr (fun _ => False) w w' := by
  go_enter Tryd.func12, Tryd.ntmps12
  go_wp2_with (first | (go_at_call 47; refine (one_is _ _).mono ?_; rintro e w1 ⟨rfl, rfl⟩) | (go_at_call 45; refine (rdiv_is _ _ _).mono ?_; rintro e w1 ⟨rfl, rfl⟩) | still_step | (with_reducible refine wpStill_nil ?_) | (with_reducible refine Flow.Both.mk ?_ ?_) | (with_reducible exact True.intro) | (with_reducible refine Flow.same_mk rfl rfl rfl ?_; go_simp; done) | (with_reducible exact Flow.same_un rfl rfl rfl) | (refine Flow.region_still mixed ?hB ?_; (case hB => decide +kernel)))
  go_ret
  exact ⟨rfl, by (repeat' (first | with_reducible exact Fr.refl _ _ | with_reducible apply Fr.alloc | with_reducible apply Fr.drew | with_reducible apply Fr.drewN | (with_reducible refine Fr.setCell ?_ ?_ _)))⟩
theorem reval2 (a b : Int) (w : World) : Calls Tryd.prog 12 #[.int .i64 2, .int .i64 a, .int .i64 b] w fun e w' => e = .returned (.int .i64 (evalZ 2 a b)) ∧ Fr (fun _ => False) w w' := by
  go_enter Tryd.func12, Tryd.ntmps12
  go_wp2_with (first | (go_at_call 47; refine (one_is _ _).mono ?_; rintro e w1 ⟨rfl, rfl⟩) | (go_at_call 45; refine (rdiv_is _ _ _).mono ?_; rintro e w1 ⟨rfl, rfl⟩) | still_step | (with_reducible refine wpStill_nil ?_) | (with_reducible refine Flow.Both.mk ?_ ?_) | (with_reducible exact True.intro) | (with_reducible refine Flow.same_mk rfl rfl rfl ?_; go_simp; done) | (with_reducible exact Flow.same_un rfl rfl rfl) | (refine Flow.region_still mixed ?hB ?_; (case hB => decide +kernel)))
  go_ret
  exact ⟨rfl, by (repeat' (first | with_reducible exact Fr.refl _ _ | with_reducible apply Fr.alloc | with_reducible apply Fr.drew | with_reducible apply Fr.drewN | (with_reducible refine Fr.setCell ?_ ?_ _)))⟩
theorem reval3 (a b : Int) (w : World) : Calls Tryd.prog 12 #[.int .i64 3, .int .i64 a, .int .i64 b] w fun e w' => e = .returned (.int .i64 (evalZ 3 a b)) ∧ Fr (fun _ => False) w w' := by
  go_enter Tryd.func12, Tryd.ntmps12
  go_wp2_with (first | (go_at_call 47; refine (one_is _ _).mono ?_; rintro e w1 ⟨rfl, rfl⟩) | (go_at_call 45; refine (rdiv_is _ _ _).mono ?_; rintro e w1 ⟨rfl, rfl⟩) | still_step | (with_reducible refine wpStill_nil ?_) | (with_reducible refine Flow.Both.mk ?_ ?_) | (with_reducible exact True.intro) | (with_reducible refine Flow.same_mk rfl rfl rfl ?_; go_simp; done) | (with_reducible exact Flow.same_un rfl rfl rfl) | (refine Flow.region_still mixed ?hB ?_; (case hB => decide +kernel)))
  go_ret
  exact ⟨rfl, by (repeat' (first | with_reducible exact Fr.refl _ _ | with_reducible apply Fr.alloc | with_reducible apply Fr.drew | with_reducible apply Fr.drewN | (with_reducible refine Fr.setCell ?_ ?_ _)))⟩
theorem e4 (a b : Int) : evalZ 4 a b = wrap64 (a - wrap64 (b * divZ a b)) := by
  have iw : ∀ n, IntKind.i64.wrap n = wrap64 n := fun n => by rw [IntKind.wrap_i64]; unfold wrap64; rfl
  show IntKind.i64.wrap (a - IntKind.i64.wrap (b * divZ a b)) = _
  rw [iw, iw]
theorem reval4 (a b : Int) (w : World) : Calls Tryd.prog 12 #[.int .i64 4, .int .i64 a, .int .i64 b] w fun e w' => e = .returned (.int .i64 (evalZ 4 a b)) ∧ Fr (fun _ => False) w w' := by
  rw [e4]
  go_enter Tryd.func12, Tryd.ntmps12
  go_wp2_with (first | (go_at_call 47; refine (one_is _ _).mono ?_; rintro e w1 ⟨rfl, rfl⟩) | (go_at_call 45; refine (rdiv_is _ _ _).mono ?_; rintro e w1 ⟨rfl, rfl⟩) | still_step | (with_reducible refine wpStill_nil ?_) | (with_reducible refine Flow.Both.mk ?_ ?_) | (with_reducible exact True.intro) | (with_reducible refine Flow.same_mk rfl rfl rfl ?_; go_simp; done) | (with_reducible exact Flow.same_un rfl rfl rfl) | (refine Flow.region_still mixed ?hB ?_; (case hB => decide +kernel)))
  go_ret
  exact ⟨rfl, by (repeat' (first | with_reducible exact Fr.refl _ _ | with_reducible apply Fr.alloc | with_reducible apply Fr.drew | with_reducible apply Fr.drewN | (with_reducible refine Fr.setCell ?_ ?_ _)))⟩
theorem reval5 (a b : Int) (w : World) : Calls Tryd.prog 12 #[.int .i64 5, .int .i64 a, .int .i64 b] w fun e w' => e = .returned (.int .i64 (evalZ 5 a b)) ∧ Fr (fun _ => False) w w' := by
  go_enter Tryd.func12, Tryd.ntmps12
  go_wp2_with (first | (go_at_call 47; refine (one_is _ _).mono ?_; rintro e w1 ⟨rfl, rfl⟩) | (go_at_call 45; refine (rdiv_is _ _ _).mono ?_; rintro e w1 ⟨rfl, rfl⟩) | still_step | (with_reducible refine wpStill_nil ?_) | (with_reducible refine Flow.Both.mk ?_ ?_) | (with_reducible exact True.intro) | (with_reducible refine Flow.same_mk rfl rfl rfl ?_; go_simp; done) | (with_reducible exact Flow.same_un rfl rfl rfl) | (refine Flow.region_still mixed ?hB ?_; (case hB => decide +kernel)))
  go_ret
  exact ⟨rfl, by (repeat' (first | with_reducible exact Fr.refl _ _ | with_reducible apply Fr.alloc | with_reducible apply Fr.drew | with_reducible apply Fr.drewN | (with_reducible refine Fr.setCell ?_ ?_ _)))⟩
theorem reval6 (a b : Int) (w : World) : Calls Tryd.prog 12 #[.int .i64 6, .int .i64 a, .int .i64 b] w fun e w' => e = .returned (.int .i64 (evalZ 6 a b)) ∧ Fr (fun _ => False) w w' := by
  go_enter Tryd.func12, Tryd.ntmps12
  go_wp2_with (first | (go_at_call 47; refine (one_is _ _).mono ?_; rintro e w1 ⟨rfl, rfl⟩) | (go_at_call 45; refine (rdiv_is _ _ _).mono ?_; rintro e w1 ⟨rfl, rfl⟩) | still_step | (with_reducible refine wpStill_nil ?_) | (with_reducible refine Flow.Both.mk ?_ ?_) | (with_reducible exact True.intro) | (with_reducible refine Flow.same_mk rfl rfl rfl ?_; go_simp; done) | (with_reducible exact Flow.same_un rfl rfl rfl) | (refine Flow.region_still mixed ?hB ?_; (case hB => decide +kernel)))
  go_ret
  exact ⟨rfl, by (repeat' (first | with_reducible exact Fr.refl _ _ | with_reducible apply Fr.alloc | with_reducible apply Fr.drew | with_reducible apply Fr.drewN | (with_reducible refine Fr.setCell ?_ ?_ _)))⟩
theorem reval7 (a b : Int) (w : World) : Calls Tryd.prog 12 #[.int .i64 7, .int .i64 a, .int .i64 b] w fun e w' => e = .returned (.int .i64 (evalZ 7 a b)) ∧ Fr (fun _ => False) w w' := by
  go_enter Tryd.func12, Tryd.ntmps12
  go_wp2_with (first | (go_at_call 47; refine (one_is _ _).mono ?_; rintro e w1 ⟨rfl, rfl⟩) | (go_at_call 45; refine (rdiv_is _ _ _).mono ?_; rintro e w1 ⟨rfl, rfl⟩) | still_step | (with_reducible refine wpStill_nil ?_) | (with_reducible refine Flow.Both.mk ?_ ?_) | (with_reducible exact True.intro) | (with_reducible refine Flow.same_mk rfl rfl rfl ?_; go_simp; done) | (with_reducible exact Flow.same_un rfl rfl rfl) | (refine Flow.region_still mixed ?hB ?_; (case hB => decide +kernel)))
  go_ret
  exact ⟨rfl, by (repeat' (first | with_reducible exact Fr.refl _ _ | with_reducible apply Fr.alloc | with_reducible apply Fr.drew | with_reducible apply Fr.drewN | (with_reducible refine Fr.setCell ?_ ?_ _)))⟩
theorem reval10 (a b : Int) (w : World) : Calls Tryd.prog 12 #[.int .i64 10, .int .i64 a, .int .i64 b] w fun e w' => e = .returned (.int .i64 (evalZ 10 a b)) ∧ Fr (fun _ => False) w w' := by
  go_enter Tryd.func12, Tryd.ntmps12
  go_wp2_with (first | (go_at_call 47; refine (one_is _ _).mono ?_; rintro e w1 ⟨rfl, rfl⟩) | (go_at_call 45; refine (rdiv_is _ _ _).mono ?_; rintro e w1 ⟨rfl, rfl⟩) | still_step | (with_reducible refine wpStill_nil ?_) | (with_reducible refine Flow.Both.mk ?_ ?_) | (with_reducible exact True.intro) | (with_reducible refine Flow.same_mk rfl rfl rfl ?_; go_simp; done) | (with_reducible exact Flow.same_un rfl rfl rfl) | (refine Flow.region_still mixed ?hB ?_; (case hB => decide +kernel)))
  go_ret
  exact ⟨rfl, by (repeat' (first | with_reducible exact Fr.refl _ _ | with_reducible apply Fr.alloc | with_reducible apply Fr.drew | with_reducible apply Fr.drewN | (with_reducible refine Fr.setCell ?_ ?_ _)))⟩
theorem reval11 (a b : Int) (w : World) : Calls Tryd.prog 12 #[.int .i64 11, .int .i64 a, .int .i64 b] w fun e w' => e = .returned (.int .i64 (evalZ 11 a b)) ∧ Fr (fun _ => False) w w' := by
  go_enter Tryd.func12, Tryd.ntmps12
  go_wp2_with (first | (go_at_call 47; refine (one_is _ _).mono ?_; rintro e w1 ⟨rfl, rfl⟩) | (go_at_call 45; refine (rdiv_is _ _ _).mono ?_; rintro e w1 ⟨rfl, rfl⟩) | still_step | (with_reducible refine wpStill_nil ?_) | (with_reducible refine Flow.Both.mk ?_ ?_) | (with_reducible exact True.intro) | (with_reducible refine Flow.same_mk rfl rfl rfl ?_; go_simp; done) | (with_reducible exact Flow.same_un rfl rfl rfl) | (refine Flow.region_still mixed ?hB ?_; (case hB => decide +kernel)))
  go_ret
  exact ⟨rfl, by (repeat' (first | with_reducible exact Fr.refl _ _ | with_reducible apply Fr.alloc | with_reducible apply Fr.drew | with_reducible apply Fr.drewN | (with_reducible refine Fr.setCell ?_ ?_ _)))⟩
theorem reval12 (a b : Int) (w : World) : Calls Tryd.prog 12 #[.int .i64 12, .int .i64 a, .int .i64 b] w fun e w' => e = .returned (.int .i64 (evalZ 12 a b)) ∧ Fr (fun _ => False) w w' := by
  go_enter Tryd.func12, Tryd.ntmps12
  go_wp2_with (first | (go_at_call 47; refine (one_is _ _).mono ?_; rintro e w1 ⟨rfl, rfl⟩) | (go_at_call 45; refine (rdiv_is _ _ _).mono ?_; rintro e w1 ⟨rfl, rfl⟩) | still_step | (with_reducible refine wpStill_nil ?_) | (with_reducible refine Flow.Both.mk ?_ ?_) | (with_reducible exact True.intro) | (with_reducible refine Flow.same_mk rfl rfl rfl ?_; go_simp; done) | (with_reducible exact Flow.same_un rfl rfl rfl) | (refine Flow.region_still mixed ?hB ?_; (case hB => decide +kernel)))
  go_ret
  exact ⟨rfl, by (repeat' (first | with_reducible exact Fr.refl _ _ | with_reducible apply Fr.alloc | with_reducible apply Fr.drew | with_reducible apply Fr.drewN | (with_reducible refine Fr.setCell ?_ ?_ _)))⟩
theorem reval13 (a b : Int) (w : World) : Calls Tryd.prog 12 #[.int .i64 13, .int .i64 a, .int .i64 b] w fun e w' => e = .returned (.int .i64 (evalZ 13 a b)) ∧ Fr (fun _ => False) w w' := by
  go_enter Tryd.func12, Tryd.ntmps12
  go_wp2_with (first | (go_at_call 47; refine (one_is _ _).mono ?_; rintro e w1 ⟨rfl, rfl⟩) | (go_at_call 45; refine (rdiv_is _ _ _).mono ?_; rintro e w1 ⟨rfl, rfl⟩) | still_step | (with_reducible refine wpStill_nil ?_) | (with_reducible refine Flow.Both.mk ?_ ?_) | (with_reducible exact True.intro) | (with_reducible refine Flow.same_mk rfl rfl rfl ?_; go_simp; done) | (with_reducible exact Flow.same_un rfl rfl rfl) | (refine Flow.region_still mixed ?hB ?_; (case hB => decide +kernel)))
  go_ret
  exact ⟨rfl, by (repeat' (first | with_reducible exact Fr.refl _ _ | with_reducible apply Fr.alloc | with_reducible apply Fr.drew | with_reducible apply Fr.drewN | (with_reducible refine Fr.setCell ?_ ?_ _)))⟩
theorem reval14 (a b : Int) (w : World) : Calls Tryd.prog 12 #[.int .i64 14, .int .i64 a, .int .i64 b] w fun e w' => e = .returned (.int .i64 (evalZ 14 a b)) ∧ Fr (fun _ => False) w w' := by
  go_enter Tryd.func12, Tryd.ntmps12
  go_wp2_with (first | (go_at_call 47; refine (one_is _ _).mono ?_; rintro e w1 ⟨rfl, rfl⟩) | (go_at_call 45; refine (rdiv_is _ _ _).mono ?_; rintro e w1 ⟨rfl, rfl⟩) | still_step | (with_reducible refine wpStill_nil ?_) | (with_reducible refine Flow.Both.mk ?_ ?_) | (with_reducible exact True.intro) | (with_reducible refine Flow.same_mk rfl rfl rfl ?_; go_simp; done) | (with_reducible exact Flow.same_un rfl rfl rfl) | (refine Flow.region_still mixed ?hB ?_; (case hB => decide +kernel)))
  go_ret
  exact ⟨rfl, by (repeat' (first | with_reducible exact Fr.refl _ _ | with_reducible apply Fr.alloc | with_reducible apply Fr.drew | with_reducible apply Fr.drewN | (with_reducible refine Fr.setCell ?_ ?_ _)))⟩
theorem reval15 (a b : Int) (w : World) : Calls Tryd.prog 12 #[.int .i64 15, .int .i64 a, .int .i64 b] w fun e w' => e = .returned (.int .i64 (evalZ 15 a b)) ∧ Fr (fun _ => False) w w' := by
  go_enter Tryd.func12, Tryd.ntmps12
  go_wp2_with (first | (go_at_call 47; refine (one_is _ _).mono ?_; rintro e w1 ⟨rfl, rfl⟩) | (go_at_call 45; refine (rdiv_is _ _ _).mono ?_; rintro e w1 ⟨rfl, rfl⟩) | still_step | (with_reducible refine wpStill_nil ?_) | (with_reducible refine Flow.Both.mk ?_ ?_) | (with_reducible exact True.intro) | (with_reducible refine Flow.same_mk rfl rfl rfl ?_; go_simp; done) | (with_reducible exact Flow.same_un rfl rfl rfl) | (refine Flow.region_still mixed ?hB ?_; (case hB => decide +kernel)))
  go_ret
  exact ⟨rfl, by (repeat' (first | with_reducible exact Fr.refl _ _ | with_reducible apply Fr.alloc | with_reducible apply Fr.drew | with_reducible apply Fr.drewN | (with_reducible refine Fr.setCell ?_ ?_ _)))⟩
theorem reval16 (a b : Int) (w : World) : Calls Tryd.prog 12 #[.int .i64 16, .int .i64 a, .int .i64 b] w fun e w' => e = .returned (.int .i64 (evalZ 16 a b)) ∧ Fr (fun _ => False) w w' := by
  go_enter Tryd.func12, Tryd.ntmps12
  go_wp2_with (first | (go_at_call 47; refine (one_is _ _).mono ?_; rintro e w1 ⟨rfl, rfl⟩) | (go_at_call 45; refine (rdiv_is _ _ _).mono ?_; rintro e w1 ⟨rfl, rfl⟩) | still_step | (with_reducible refine wpStill_nil ?_) | (with_reducible refine Flow.Both.mk ?_ ?_) | (with_reducible exact True.intro) | (with_reducible refine Flow.same_mk rfl rfl rfl ?_; go_simp; done) | (with_reducible exact Flow.same_un rfl rfl rfl) | (refine Flow.region_still mixed ?hB ?_; (case hB => decide +kernel)))
  go_ret
  exact ⟨rfl, by (repeat' (first | with_reducible exact Fr.refl _ _ | with_reducible apply Fr.alloc | with_reducible apply Fr.drew | with_reducible apply Fr.drewN | (with_reducible refine Fr.setCell ?_ ?_ _)))⟩
theorem reval17 (a b : Int) (w : World) : Calls Tryd.prog 12 #[.int .i64 17, .int .i64 a, .int .i64 b] w fun e w' => e = .returned (.int .i64 (evalZ 17 a b)) ∧ Fr (fun _ => False) w w' := by
  rw [e17]
  by_cases h : a = 0
  · subst h
    go_enter Tryd.func12, Tryd.ntmps12
    go_wp2_with (first | (go_at_call 47; refine (one_is _ _).mono ?_; rintro e w1 ⟨rfl, rfl⟩) | (go_at_call 45; refine (rdiv_is _ _ _).mono ?_; rintro e w1 ⟨rfl, rfl⟩) | still_step | (with_reducible refine wpStill_nil ?_) | (with_reducible refine Flow.Both.mk ?_ ?_) | (with_reducible exact True.intro) | (with_reducible refine Flow.same_mk rfl rfl rfl ?_; go_simp; done) | (with_reducible exact Flow.same_un rfl rfl rfl) | (refine Flow.region_still mixed ?hB ?_; (case hB => decide +kernel)))
    go_ret
    exact ⟨by simp, by (repeat' (first | with_reducible exact Fr.refl _ _ | with_reducible apply Fr.alloc | with_reducible apply Fr.drew | with_reducible apply Fr.drewN | (with_reducible refine Fr.setCell ?_ ?_ _)))⟩
  · have h1 : (a != 0) = true := by simpa using h
    rw [h1, Bool.true_and]
    go_enter Tryd.func12, Tryd.ntmps12
    go_wp2_with (first | (go_at_call 47; refine (one_is _ _).mono ?_; rintro e w1 ⟨rfl, rfl⟩) | (go_at_call 45; refine (rdiv_is _ _ _).mono ?_; rintro e w1 ⟨rfl, rfl⟩) | still_step | (with_reducible refine wpStill_nil ?_) | (with_reducible refine Flow.Both.mk ?_ ?_) | (with_reducible exact True.intro) | (with_reducible refine Flow.same_mk rfl rfl rfl ?_; go_simp; done) | (with_reducible exact Flow.same_un rfl rfl rfl) | (refine Flow.region_still mixed ?hB ?_; (case hB => decide +kernel)))
    go_ret
    exact ⟨by simp, by (repeat' (first | with_reducible exact Fr.refl _ _ | with_reducible apply Fr.alloc | with_reducible apply Fr.drew | with_reducible apply Fr.drewN | (with_reducible refine Fr.setCell ?_ ?_ _)))⟩
theorem reval18 (a b : Int) (w : World) : Calls Tryd.prog 12 #[.int .i64 18, .int .i64 a, .int .i64 b] w fun e w' => e = .returned (.int .i64 (evalZ 18 a b)) ∧ Fr (fun _ => False) w w' := by
  rw [e18]
  by_cases h : a = 0
  · subst h
    go_enter Tryd.func12, Tryd.ntmps12
    go_wp2_with (first | (go_at_call 47; refine (one_is _ _).mono ?_; rintro e w1 ⟨rfl, rfl⟩) | (go_at_call 45; refine (rdiv_is _ _ _).mono ?_; rintro e w1 ⟨rfl, rfl⟩) | still_step | (with_reducible refine wpStill_nil ?_) | (with_reducible refine Flow.Both.mk ?_ ?_) | (with_reducible exact True.intro) | (with_reducible refine Flow.same_mk rfl rfl rfl ?_; go_simp; done) | (with_reducible exact Flow.same_un rfl rfl rfl) | (refine Flow.region_still mixed ?hB ?_; (case hB => decide +kernel)))
    go_ret
    exact ⟨by simp, by (repeat' (first | with_reducible exact Fr.refl _ _ | with_reducible apply Fr.alloc | with_reducible apply Fr.drew | with_reducible apply Fr.drewN | (with_reducible refine Fr.setCell ?_ ?_ _)))⟩
  · have h1 : (a != 0) = true := by simpa using h
    rw [h1, Bool.true_or]
    go_enter Tryd.func12, Tryd.ntmps12
    go_wp2_with (first | (go_at_call 47; refine (one_is _ _).mono ?_; rintro e w1 ⟨rfl, rfl⟩) | (go_at_call 45; refine (rdiv_is _ _ _).mono ?_; rintro e w1 ⟨rfl, rfl⟩) | still_step | (with_reducible refine wpStill_nil ?_) | (with_reducible refine Flow.Both.mk ?_ ?_) | (with_reducible exact True.intro) | (with_reducible refine Flow.same_mk rfl rfl rfl ?_; go_simp; done) | (with_reducible exact Flow.same_un rfl rfl rfl) | (refine Flow.region_still mixed ?hB ?_; (case hB => decide +kernel)))
    go_ret
    exact ⟨by simp, by (repeat' (first | with_reducible exact Fr.refl _ _ | with_reducible apply Fr.alloc | with_reducible apply Fr.drew | with_reducible apply Fr.drewN | (with_reducible refine Fr.setCell ?_ ?_ _)))⟩

theorem reval8 (a b : Int) (ha : inI a) (hb : inI b) (w : World) : Calls Tryd.prog 12 #[.int .i64 8, .int .i64 a, .int .i64 b] w fun e w' => e = .returned (.int .i64 (evalZ 8 a b)) ∧ Fr (fun _ => False) w w' := by
  have hs := hid (fun w => shift_l a b ha hb w)
  generalize evalZ 8 a b = z at *
  go_enter Tryd.func12, Tryd.ntmps12
  go_wp2_with (first | (go_at_call 46; refine (hs.out _).mono ?_; rintro e w1 ⟨rfl, hf⟩; have HF := hid hf; clear hf) | still_step | (with_reducible refine wpStill_nil ?_) | (with_reducible refine Flow.Both.mk ?_ ?_) | (with_reducible exact True.intro) | (with_reducible refine Flow.same_mk rfl rfl rfl ?_; go_simp; done) | (with_reducible exact Flow.same_un rfl rfl rfl) | (refine Flow.region_still mixed ?hB ?_; (case hB => decide +kernel)))
  go_ret
  exact ⟨rfl, HF.out⟩
theorem reval9 (a b : Int) (ha : inI a) (hb : inI b) (w : World) : Calls Tryd.prog 12 #[.int .i64 9, .int .i64 a, .int .i64 b] w fun e w' => e = .returned (.int .i64 (evalZ 9 a b)) ∧ Fr (fun _ => False) w w' := by
  have hs := hid (fun w => shift_r a b ha hb w)
  generalize evalZ 9 a b = z at *
  go_enter Tryd.func12, Tryd.ntmps12
  go_wp2_with (first | (go_at_call 46; refine (hs.out _).mono ?_; rintro e w1 ⟨rfl, hf⟩; have HF := hid hf; clear hf) | still_step | (with_reducible refine wpStill_nil ?_) | (with_reducible refine Flow.Both.mk ?_ ?_) | (with_reducible exact True.intro) | (with_reducible refine Flow.same_mk rfl rfl rfl ?_; go_simp; done) | (with_reducible exact Flow.same_un rfl rfl rfl) | (refine Flow.region_still mixed ?hB ?_; (case hB => decide +kernel)))
  go_ret
  exact ⟨rfl, HF.out⟩

theorem reval_none (op a b : Int) (h : ¬ (0 ≤ op ∧ op < 19)) (w : World) : Calls Tryd.prog 12 #[.int .i64 op, .int .i64 a, .int .i64 b] w fun e w' => e = .returned (.int .i64 (evalZ op a b)) ∧ Fr (fun _ => False) w w' := by
  have e : evalZ op a b = 0 := by unfold evalZ; rw [if_neg h]
  rw [e]
  have h0 : (op == 0) = false := by simp; omega
  have h1 : (op == 1) = false := by simp; omega
  have h2 : (op == 2) = false := by simp; omega
  have h3 : (op == 3) = false := by simp; omega
  have h4 : (op == 4) = false := by simp; omega
  have h5 : (op == 5) = false := by simp; omega
  have h6 : (op == 6) = false := by simp; omega
  have h7 : (op == 7) = false := by simp; omega
  have h8 : (op == 8) = false := by simp; omega
  have h9 : (op == 9) = false := by simp; omega
  have h10 : (op == 10) = false := by simp; omega
  have h11 : (op == 11) = false := by simp; omega
  have h12 : (op == 12) = false := by simp; omega
  have h13 : (op == 13) = false := by simp; omega
  have h14 : (op == 14) = false := by simp; omega
  have h15 : (op == 15) = false := by simp; omega
  have h16 : (op == 16) = false := by simp; omega
  have h17 : (op == 17) = false := by simp; omega
  have h18 : (op == 18) = false := by simp; omega
  clear e h
  go_enter Tryd.func12, Tryd.ntmps12
  go_wp2_with (first | fail | still_step | (with_reducible refine wpStill_nil ?_) | (with_reducible refine Flow.Both.mk ?_ ?_) | (with_reducible exact True.intro) | (with_reducible refine Flow.same_mk rfl rfl rfl ?_; go_simp; done) | (with_reducible exact Flow.same_un rfl rfl rfl) | (refine Flow.region_still mixed ?hB ?_; (case hB => decide +kernel)))
  go_ret
  exact ⟨rfl, by (repeat' (first | with_reducible exact Fr.refl _ _ | with_reducible apply Fr.alloc | with_reducible apply Fr.drew | with_reducible apply Fr.drewN | (with_reducible refine Fr.setCell ?_ ?_ _)))⟩

theorem reval_is (op a b : Int) (ha : inI a) (hb : inI b) (w : World) : Calls Tryd.prog 12 #[.int .i64 op, .int .i64 a, .int .i64 b] w fun e w' => e = .returned (.int .i64 (evalZ op a b)) ∧ Fr (fun _ => False) w w' := by
  by_cases h : 0 ≤ op ∧ op < 19
  · obtain rfl | rfl | rfl | rfl | rfl | rfl | rfl | rfl | rfl | rfl | rfl | rfl | rfl | rfl | rfl | rfl | rfl | rfl | rfl : op = 0 ∨ op = 1 ∨ op = 2 ∨ op = 3 ∨ op = 4 ∨ op = 5 ∨ op = 6 ∨ op = 7 ∨ op = 8 ∨ op = 9 ∨ op = 10 ∨ op = 11 ∨ op = 12 ∨ op = 13 ∨ op = 14 ∨ op = 15 ∨ op = 16 ∨ op = 17 ∨ op = 18 := by omega
    · exact reval0 a b w
    · exact reval1 a b w
    · exact reval2 a b w
    · exact reval3 a b w
    · exact reval4 a b w
    · exact reval5 a b w
    · exact reval6 a b w
    · exact reval7 a b w
    · exact reval8 a b ha hb w
    · exact reval9 a b ha hb w
    · exact reval10 a b w
    · exact reval11 a b w
    · exact reval12 a b w
    · exact reval13 a b w
    · exact reval14 a b w
    · exact reval15 a b w
    · exact reval16 a b w
    · exact reval17 a b w
    · exact reval18 a b w
  · exact reval_none op a b h w
end Go.Proofs.YtonjhjkhmjfngaaDoor
