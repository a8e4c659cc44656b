/-
  The reference of chapter 01: Eval, Sign, Op, Rank answer as calc's do.
-/
import Derived.Test.YtonjhjkhmjfngaaDoorLaw01r
namespace Go.Proofs.YtonjhjkhmjfngaaDoor
open Go.RowKit
attribute [local irreducible] wpStill wpList Calls CallsIn

theorem one_is (c : Bool) (w : World) : Calls Tryd.prog 47 #[.bool c] w fun e w' => e = .returned (.int .i64 (toldZ c)) ∧ w' = w := by
  cases c
  all_goals
    go_enter Tryd.func47, Tryd.ntmps47
    go_wp2_with (first | fail | still_step | (with_reducible refine wpStill_nil ?_) | (with_reducible refine Flow.Both.mk ?_ ?_) | (with_reducible exact True.intro) | (with_reducible refine Flow.same_mk rfl rfl rfl ?_; go_simp; done) | (with_reducible exact Flow.same_un rfl rfl rfl) | (refine Flow.region_still mixed ?hB ?_; (case hB => decide +kernel)))
    go_ret
    exact ⟨rfl, rfl⟩

theorem rdiv_is (a b : Int) (w : World) : Calls Tryd.prog 45 #[.int .i64 a, .int .i64 b] w fun e w' => e = .returned (.int .i64 (divZ a b)) ∧ w' = w := by
  go_enter Tryd.func45, Tryd.ntmps45
  by_cases h0 : b = 0
  · subst h0
    go_wp2_with (first | fail | still_step | (with_reducible refine wpStill_nil ?_) | (with_reducible refine Flow.Both.mk ?_ ?_) | (with_reducible exact True.intro) | (with_reducible refine Flow.same_mk rfl rfl rfl ?_; go_simp; done) | (with_reducible exact Flow.same_un rfl rfl rfl) | (refine Flow.region_still mixed ?hB ?_; (case hB => decide +kernel)))
    go_ret
    exact ⟨rfl, rfl⟩
  · by_cases h1 : b = -1
    · subst h1
      go_wp2_with (first | fail | still_step | (with_reducible refine wpStill_nil ?_) | (with_reducible refine Flow.Both.mk ?_ ?_) | (with_reducible exact True.intro) | (with_reducible refine Flow.same_mk rfl rfl rfl ?_; go_simp; done) | (with_reducible exact Flow.same_un rfl rfl rfl) | (refine Flow.region_still mixed ?hB ?_; (case hB => decide +kernel)))
      go_ret
      exact ⟨rfl, rfl⟩
    · have hz : divZ a b = wrap64 (a.tdiv b) := by unfold divZ; rw [if_neg h0, if_neg h1]
      rw [hz]
      clear hz
      go_wp2_with (first | fail | still_step | (with_reducible refine wpStill_nil ?_) | (with_reducible refine Flow.Both.mk ?_ ?_) | (with_reducible exact True.intro) | (with_reducible refine Flow.same_mk rfl rfl rfl ?_; go_simp; done) | (with_reducible exact Flow.same_un rfl rfl rfl) | (refine Flow.region_still mixed ?hB ?_; (case hB => decide +kernel)))
      go_ret
      exact ⟨rfl, rfl⟩

set_option maxHeartbeats 8000000 in
theorem rsign_is (op : Int) (w : World) : Calls Tryd.prog 14 #[.int .i64 op] w fun e w' => e = .returned (.string (bytesV (signL op))) ∧ Fr (fun _ => False) w w' := by
  by_cases h : 0 ≤ op ∧ op < 19
  · obtain rfl | rfl | rfl | rfl | rfl | rfl | rfl | rfl | rfl | rfl | rfl | rfl | rfl | rfl | rfl | rfl | rfl | rfl | rfl : op = 0 ∨ op = 1 ∨ op = 2 ∨ op = 3 ∨ op = 4 ∨ op = 5 ∨ op = 6 ∨ op = 7 ∨ op = 8 ∨ op = 9 ∨ op = 10 ∨ op = 11 ∨ op = 12 ∨ op = 13 ∨ op = 14 ∨ op = 15 ∨ op = 16 ∨ op = 17 ∨ op = 18 := by omega
    all_goals
      go_enter Tryd.func14, Tryd.ntmps14
      go_wp2_with (first | fail | still_step | (with_reducible refine wpStill_nil ?_) | (with_reducible refine Flow.Both.mk ?_ ?_) | (with_reducible exact True.intro) | (with_reducible refine Flow.same_mk rfl rfl rfl ?_; go_simp; done) | (with_reducible exact Flow.same_un rfl rfl rfl) | (refine Flow.region_still mixed ?hB ?_; (case hB => decide +kernel)))
      go_ret
      exact ⟨rfl, by (repeat' (first | with_reducible exact Fr.refl _ _ | with_reducible apply Fr.alloc | with_reducible apply Fr.drew | with_reducible apply Fr.drewN | (with_reducible refine Fr.setCell ?_ ?_ _)))⟩
  · have e : signL op = [] := by unfold signL; rw [if_neg h]
    rw [e]
    unfold bytesV
    clear e
    have h2 : op < 0 ∨ (¬ op < 0 ∧ 19 ≤ op) := by omega
    clear h
    rcases h2 with h | ⟨h, h2⟩
    all_goals
      go_enter Tryd.func14, Tryd.ntmps14
      go_wp2_with (first | fail | still_step | (with_reducible refine wpStill_nil ?_) | (with_reducible refine Flow.Both.mk ?_ ?_) | (with_reducible exact True.intro) | (with_reducible refine Flow.same_mk rfl rfl rfl ?_; go_simp; done) | (with_reducible exact Flow.same_un rfl rfl rfl) | (refine Flow.region_still mixed ?hB ?_; (case hB => decide +kernel)))
      go_ret
      exact ⟨rfl, by (repeat' (first | with_reducible exact Fr.refl _ _ | with_reducible apply Fr.alloc | with_reducible apply Fr.drew | with_reducible apply Fr.drewN | (with_reducible refine Fr.setCell ?_ ?_ _)))⟩

set_option maxHeartbeats 8000000 in
theorem rrank_is (op : Int) (w : World) : Calls Tryd.prog 18 #[.int .i64 op] w fun e w' => e = .returned (.int .i64 (rankL op)) ∧ Fr (fun _ => False) w w' := by
  by_cases h : 0 ≤ op ∧ op < 19
  · obtain rfl | rfl | rfl | rfl | rfl | rfl | rfl | rfl | rfl | rfl | rfl | rfl | rfl | rfl | rfl | rfl | rfl | rfl | rfl : op = 0 ∨ op = 1 ∨ op = 2 ∨ op = 3 ∨ op = 4 ∨ op = 5 ∨ op = 6 ∨ op = 7 ∨ op = 8 ∨ op = 9 ∨ op = 10 ∨ op = 11 ∨ op = 12 ∨ op = 13 ∨ op = 14 ∨ op = 15 ∨ op = 16 ∨ op = 17 ∨ op = 18 := by omega
    all_goals
      go_enter Tryd.func18, Tryd.ntmps18
      go_wp2_with (first | fail | still_step | (with_reducible refine wpStill_nil ?_) | (with_reducible refine Flow.Both.mk ?_ ?_) | (with_reducible exact True.intro) | (with_reducible refine Flow.same_mk rfl rfl rfl ?_; go_simp; done) | (with_reducible exact Flow.same_un rfl rfl rfl) | (refine Flow.region_still mixed ?hB ?_; (case hB => decide +kernel)))
      go_ret
      exact ⟨rfl, by (repeat' (first | with_reducible exact Fr.refl _ _ | with_reducible apply Fr.alloc | with_reducible apply Fr.drew | with_reducible apply Fr.drewN | (with_reducible refine Fr.setCell ?_ ?_ _)))⟩
  · have e : rankL op = 0 := by unfold rankL; rw [if_neg h]
    rw [e]
    clear e
    have h2 : op < 0 ∨ (¬ op < 0 ∧ 19 ≤ op) := by omega
    clear h
    rcases h2 with h | ⟨h, h2⟩
    all_goals
      go_enter Tryd.func18, Tryd.ntmps18
      go_wp2_with (first | fail | still_step | (with_reducible refine wpStill_nil ?_) | (with_reducible refine Flow.Both.mk ?_ ?_) | (with_reducible exact True.intro) | (with_reducible refine Flow.same_mk rfl rfl rfl ?_; go_simp; done) | (with_reducible exact Flow.same_un rfl rfl rfl) | (refine Flow.region_still mixed ?hB ?_; (case hB => decide +kernel)))
      go_ret
      exact ⟨rfl, by (repeat' (first | with_reducible exact Fr.refl _ _ | with_reducible apply Fr.alloc | with_reducible apply Fr.drew | with_reducible apply Fr.drewN | (with_reducible refine Fr.setCell ?_ ?_ _)))⟩

theorem opL_hit (s : ByteArray) (hs : s ≠ bytesV []) (k : Nat) (hk : k < 19) (he : bytesV (signL k) = s) (hn : ∀ j : Nat, j < k → bytesV (signL j) ≠ s) : opL s = k := by
  have hg : ∀ j : Nat, j < 19 → (signBytes.map bytesV).getD j ByteArray.empty = bytesV (signL j) := by
    intro j hj
    have : j < signBytes.length := hj
    unfold signL
    rw [if_pos (by omega)]
    simp [List.getD, this]
  unfold opL
  rw [if_neg hs]
  have := Lib.idxFromS_hit s (signBytes.map bytesV) k 0 (by rw [List.length_map]; exact hk) ((hg k hk).trans he) (fun j hj => by rw [hg j (by omega)]; exact hn j hj)
  unfold Lib.idxOfS
  rw [this]
  simp

theorem opL_miss (s : ByteArray) (hn : s = bytesV [] ∨ ∀ j : Nat, j < 19 → bytesV (signL j) ≠ s) : opL s = -1 := by
  unfold opL
  by_cases hs : s = bytesV []
  · rw [if_pos hs]
  · rw [if_neg hs]
    have hn := hn.resolve_left hs
    unfold Lib.idxOfS
    apply Lib.idxFromS_miss
    intro j hj
    have hj2 : j < 19 := by rw [List.length_map] at hj; exact hj
    have h2 : j < signBytes.length := hj2
    have := hn j hj2
    unfold signL at this
    rw [if_pos (by omega)] at this
    simpa [List.getD, h2] using this

set_option maxHeartbeats 1000000 in
theorem rop_is (s : ByteArray) (w : World) : Calls Tryd.prog 16 #[.string s] w fun e w' => e = .returned (.int .i64 (opL s)) ∧ Fr (fun _ => False) w w' := by
  obtain ⟨r, hr⟩ : ∃ r, r = opL s := ⟨_, rfl⟩
  rw [← hr]
  by_cases hs : s = bytesV []
  · have hr1 : r = -1 := by rw [hr]; exact opL_miss s (.inl hs)
    subst hr1
    have hem : s.toList.isEmpty = true := by rw [hs]; decide +kernel
    clear hr hs
    go_enter Tryd.func16, Tryd.ntmps16
    go_wp2_with (first | fail | still_step | (with_reducible refine wpStill_nil ?_) | (with_reducible refine Flow.Both.mk ?_ ?_) | (with_reducible exact True.intro) | (with_reducible refine Flow.same_mk rfl rfl rfl ?_; go_simp; done) | (with_reducible exact Flow.same_un rfl rfl rfl) | (refine Flow.region_still mixed ?hB ?_; (case hB => decide +kernel)))
    go_loopw [3] (fun i wr => ∃ k : Nat, k ≤ 19 ∧ i = .int .i64 k ∧ Fr (fun _ => False) w wr) (fun i _ => 19 - (intOf i).toNat)
    case atStart => exact ⟨0, Nat.zero_le _, rfl, Fr.refl _ _⟩
    case round =>
      obtain ⟨k, hk, rfl, hf⟩ := hrel
      have HF := hid hf
      clear hf
      by_cases hlt : k < 19
      · go_wp2_with (first | fail | still_step | (with_reducible refine wpStill_nil ?_) | (with_reducible refine Flow.Both.mk ?_ ?_) | (with_reducible exact True.intro) | (with_reducible refine Flow.same_mk rfl rfl rfl ?_; go_simp; done) | (with_reducible exact Flow.same_un rfl rfl rfl) | (refine Flow.region_still mixed ?hB ?_; (case hB => decide +kernel)))
        go_roundw
        case rel =>
          have hrl : ∃ k_1 : Nat, k_1 ≤ 19 ∧ (Value.int .i64 ((k : Int) + 1)) = .int .i64 k_1 ∧ Fr (fun _ => False) w wr := ⟨k + 1, by omega, by go_num, HF.out⟩
          first | exact hrl | ((repeat apply Exists.intro); exact ⟨hrl, rfl⟩)
        case measure => simp [intOf]; omega
      · obtain rfl : k = 19 := by omega
        go_wp2_with (first | fail | still_step | (with_reducible refine wpStill_nil ?_) | (with_reducible refine Flow.Both.mk ?_ ?_) | (with_reducible exact True.intro) | (with_reducible refine Flow.same_mk rfl rfl rfl ?_; go_simp; done) | (with_reducible exact Flow.same_un rfl rfl rfl) | (refine Flow.region_still mixed ?hB ?_; (case hB => decide +kernel)))
        go_ret
        exact ⟨rfl, HF.out⟩
  · have hem : s.toList.isEmpty = false := by
      rw [ByteArray.toList_eq]
      obtain ⟨⟨l⟩⟩ := s
      cases l with
      | nil => exact absurd rfl hs
      | cons c l => rfl
    have HS := hid hs
    have HR := hid hr
    clear hr hs
    go_enter Tryd.func16, Tryd.ntmps16
    go_wp2_with (first | fail | still_step | (with_reducible refine wpStill_nil ?_) | (with_reducible refine Flow.Both.mk ?_ ?_) | (with_reducible exact True.intro) | (with_reducible refine Flow.same_mk rfl rfl rfl ?_; go_simp; done) | (with_reducible exact Flow.same_un rfl rfl rfl) | (refine Flow.region_still mixed ?hB ?_; (case hB => decide +kernel)))
    go_loopw [3] (fun i wr => ∃ k : Nat, k ≤ 19 ∧ i = .int .i64 k ∧ (∀ j : Nat, j < k → bytesV (signL j) ≠ s) ∧ Fr (fun _ => False) w wr) (fun i _ => 19 - (intOf i).toNat)
    case atStart => exact ⟨0, Nat.zero_le _, rfl, fun j h => absurd h (Nat.not_lt_zero _), Fr.refl _ _⟩
    case round =>
      obtain ⟨k, hk, rfl, hall, hf⟩ := hrel
      have HF := hid hf
      have HA := hid hall
      clear hf hall
      by_cases hlt : k < 19
      · by_cases he : bytesV (signL k) = s
        · have hr1 : r = (k : Int) := by rw [HR.out]; exact opL_hit s HS.out k hlt he HA.out
          subst hr1
          have HE := hid he
          clear he
          go_wp2_with (first | (go_at_call 14; refine (rsign_is (k : Int) _).mono ?_; rintro e w2 ⟨rfl, hf⟩; rw [HE.out]; have HF2 := hid (HF.out.trans hf (fun _ _ h => h)); clear hf) | still_step | (with_reducible refine wpStill_nil ?_) | (with_reducible refine Flow.Both.mk ?_ ?_) | (with_reducible exact True.intro) | (with_reducible refine Flow.same_mk rfl rfl rfl ?_; go_simp; done) | (with_reducible exact Flow.same_un rfl rfl rfl) | (refine Flow.region_still mixed ?hB ?_; (case hB => decide +kernel)))
          go_ret
          exact ⟨rfl, HF2.out⟩
        · have hall2 : ∀ j : Nat, j < k + 1 → bytesV (signL j) ≠ s := fun j hj => by
            by_cases hjk : j = k
            · subst hjk; exact he
            · exact HA.out j (by omega)
          have HA2 := hid hall2
          obtain ⟨d, hd⟩ : ∃ d, d = bytesV (signL k) := ⟨_, rfl⟩
          rw [← hd] at he
          have hnb := (Lib.bytes_beq_false_iff d s).2 he
          have HD := hid hd
          clear he hd hall2
          go_wp2_with (first | (go_at_call 14; refine (rsign_is (k : Int) _).mono ?_; rintro e w2 ⟨rfl, hf⟩; rw [← HD.out]; have HF2 := hid (HF.out.trans hf (fun _ _ h => h)); clear hf) | still_step | (with_reducible refine wpStill_nil ?_) | (with_reducible refine Flow.Both.mk ?_ ?_) | (with_reducible exact True.intro) | (with_reducible refine Flow.same_mk rfl rfl rfl ?_; go_simp; done) | (with_reducible exact Flow.same_un rfl rfl rfl) | (refine Flow.region_still mixed ?hB ?_; (case hB => decide +kernel)))
          go_roundw
          case rel =>
            have hrl : ∃ k_1 : Nat, k_1 ≤ 19 ∧ (Value.int .i64 ((k : Int) + 1)) = .int .i64 k_1 ∧ (∀ j : Nat, j < k_1 → bytesV (signL j) ≠ s) ∧ Fr (fun _ => False) w w2 := ⟨k + 1, by omega, by go_num, HA2.out, HF2.out⟩
            first | exact hrl | ((repeat apply Exists.intro); exact ⟨hrl, rfl⟩)
          case measure => simp [intOf]; omega
      · obtain rfl : k = 19 := by omega
        have hr1 : r = -1 := by rw [HR.out]; exact opL_miss s (.inr HA.out)
        subst hr1
        go_wp2_with (first | fail | still_step | (with_reducible refine wpStill_nil ?_) | (with_reducible refine Flow.Both.mk ?_ ?_) | (with_reducible exact True.intro) | (with_reducible refine Flow.same_mk rfl rfl rfl ?_; go_simp; done) | (with_reducible exact Flow.same_un rfl rfl rfl) | (refine Flow.region_still mixed ?hB ?_; (case hB => decide +kernel)))
        go_ret
        exact ⟨rfl, HF.out⟩
end Go.Proofs.YtonjhjkhmjfngaaDoor
