/-
  CalcSame and CalcShifts: the laws' walks.
-/
import Derived.Test.YtonjhjkhmjfngaaDoorLaw01o
import Derived.Lib.ItoaLen
namespace Go.Proofs.YtonjhjkhmjfngaaDoor
open Go.RowKit
attribute [local irreducible] wpStill wpList Calls CallsIn


theorem toNat48 (d : Nat) (h : d < 10) : (UInt8.ofNat (48 + d)).toNat = 48 + d := by
  rw [UInt8.toNat_ofNat']
  omega

/-- Digits are read as what they show, whatever follows. -/
theorem parse_dec : ∀ (u : Nat), u ≤ 18446744073709551615 → ∀ r : List UInt8, Lib.parseUintM 18446744073709551615 0 (Lib.decDigits u ++ r) = Lib.parseUintM 18446744073709551615 u r := by
  intro u
  induction u using Nat.strongRecOn with
  | ind u ih =>
    intro hu r
    rw [Lib.decDigits]
    by_cases h : u < 10
    · rw [dif_pos h]
      simp only [List.cons_append, List.nil_append, Lib.parseUintM]
      rw [toNat48 u h]
      rw [if_pos (by omega), if_neg (by omega), if_neg (by omega)]
      congr 1
      omega
    · rw [dif_neg h, List.append_assoc, ih (u / 10) (by omega) (by omega)]
      simp only [List.cons_append, List.nil_append, Lib.parseUintM]
      rw [toNat48 (u % 10) (by omega)]
      rw [if_pos (by omega), if_neg (by omega), if_neg (by omega)]
      congr 1
      omega

theorem decDigits_ne (u : Nat) : Lib.decDigits u ≠ [] := by
  intro h
  have := Lib.decDigits_length u
  rw [h] at this
  have := Lib.nDigits_pos u
  simp at *
  omega

theorem num_itoa (n : Int) (h : inI n) : numL (Lib.itoa n) = if 0 ≤ n then (n, true) else (0, false) := by
  obtain ⟨h1, h2⟩ := h
  by_cases hn : 0 ≤ n
  · rw [if_pos hn]
    obtain ⟨u, rfl⟩ : ∃ u : Nat, n = u := ⟨n.toNat, by omega⟩
    have e : Lib.itoa (u : Int) = Lib.decDigits u := by unfold Lib.itoa; rw [if_neg (by omega)]; simp
    have hp : Lib.parseUintB 64 (Lib.decDigits u) = .ok u := by
      unfold Lib.parseUintB
      rw [if_neg (decDigits_ne u)]
      have := parse_dec u (by omega) []
      rw [List.append_nil] at this
      exact this
    rw [e]
    unfold numL
    rw [hp]
    dsimp only
    rw [if_pos ⟨by omega, e⟩]
  · rw [if_neg hn]
    have e : Lib.itoa n = 45 :: Lib.decDigits n.natAbs := by unfold Lib.itoa; rw [if_pos (by omega)]
    rw [e]
    unfold numL
    have hp : Lib.parseUintB 64 (45 :: Lib.decDigits n.natAbs) = Lib.parseUintB 64 [] := by
      unfold Lib.parseUintB
      rw [if_neg (by simp), if_pos rfl]
      unfold Lib.parseUintM
      rw [if_neg (by decide)]
    rw [hp]
    rfl

theorem sign_cases (op : Int) : (signL op = [] ∧ rankL op = 0) ∨ (signL op ≠ [] ∧ rankL op ≠ 0 ∧ opL (bytesV (signL op)) = op) := by
  by_cases h : 0 ≤ op ∧ op < 19
  · obtain ⟨k, rfl⟩ : ∃ k : Nat, op = k := ⟨op.toNat, by omega⟩
    have hk : k < 19 := by omega
    have key : ∀ k : Fin 19, (signL (k.val : Int) = [] ∧ rankL (k.val : Int) = 0) ∨ (signL (k.val : Int) ≠ [] ∧ rankL (k.val : Int) ≠ 0 ∧ opL (bytesV (signL (k.val : Int))) = (k.val : Int)) := by decide +kernel
    exact key ⟨k, hk⟩
  · exact .inl ⟨by unfold signL; rw [if_neg h], by unfold rankL; rw [if_neg h]⟩

theorem itoa_small (n : Int) (h : inI n) : (bytesV (Lib.itoa n)).size ≤ 1000000 := by
  have := Lib.itoa_length_le n h.1 h.2
  show (Lib.itoa n).toArray.size ≤ 1000000
  simp
  omega


set_option maxHeartbeats 4000000 in
set_option maxRecDepth 100000 in
theorem same_walk (op n : Int) (hn : inI n) (w : World) (ht : Tabs w) : Calls Tryd.prog 7 #[.int .i64 op, .int .i64 n] w fun e w' => e = .returned (.bool true) ∧ Below w.heap.size w w' := by
  have hnn := num_itoa n hn
  have hn := hid hn
  rcases sign_cases op with ⟨f1, f2⟩ | ⟨f1, f2, f3⟩
  · have FA := hid (⟨f1, f2⟩ : _ ∧ _)
    have hem : (bytesV []).toList.isEmpty = true := by decide +kernel
    clear f1 f2
    by_cases hpos : 0 ≤ n
    · rw [if_pos hpos] at hnn
      have hnn := hid hnn
      have HT := hid ht
      clear ht
      go_enter Tryd.func7, Tryd.ntmps7
      go_wp2_with (first | fail | still_step | (with_reducible refine wpStill_nil ?_) | (with_reducible refine Flow.Both.mk ?_ ?_) | (with_reducible exact True.intro) | (with_reducible refine Flow.same_mk rfl rfl rfl ?_; go_simp; done) | (with_reducible exact Flow.same_un rfl rfl rfl) | (refine Flow.region_still mixed ?hB ?_; (case hB => decide +kernel)))
      go_at_call 10
      refine (awake_true w HT.out).mono ?_
      rintro e w1 ⟨rfl, hf⟩
      have HF := hid hf
      clear hf
      go_wp2_with (first | fail | still_step | (with_reducible refine wpStill_nil ?_) | (with_reducible refine Flow.Both.mk ?_ ?_) | (with_reducible exact True.intro) | (with_reducible refine Flow.same_mk rfl rfl rfl ?_; go_simp; done) | (with_reducible exact Flow.same_un rfl rfl rfl) | (refine Flow.region_still mixed ?hB ?_; (case hB => decide +kernel)))
      go_at_call 13
      refine (sign_is op _ (HT.out.fr HF.out)).mono ?_
      rintro e w2 ⟨rfl, rfl⟩
      try rw [FA.out.1]
      go_wp2_with (first | fail | still_step | (with_reducible refine wpStill_nil ?_) | (with_reducible refine Flow.Both.mk ?_ ?_) | (with_reducible exact True.intro) | (with_reducible refine Flow.same_mk rfl rfl rfl ?_; go_simp; done) | (with_reducible exact Flow.same_un rfl rfl rfl) | (refine Flow.region_still mixed ?hB ?_; (case hB => decide +kernel)))
      go_at_call 22
      refine (digits_is n hn.out.1 hn.out.2 _ (HT.out.fr HF.out)).mono ?_
      rintro e w3 ⟨rfl, hf⟩
      have HF3 := hid (HF.out.trans hf (fun _ _ h => h))
      clear hf
      go_wp2_with (first | fail | still_step | (with_reducible refine wpStill_nil ?_) | (with_reducible refine Flow.Both.mk ?_ ?_) | (with_reducible exact True.intro) | (with_reducible refine Flow.same_mk rfl rfl rfl ?_; go_simp; done) | (with_reducible exact Flow.same_un rfl rfl rfl) | (refine Flow.region_still mixed ?hB ?_; (case hB => decide +kernel)))
      go_at_call 20
      have hnum := number_is (bytesV (Lib.itoa n)) (itoa_small n hn.out) w3 (HT.out.fr HF3.out)
      rw [show (bytesV (Lib.itoa n)).data.toList = Lib.itoa n from by simp [bytesV], hnn.out] at hnum
      refine hnum.mono ?_
      rintro e w4 ⟨rfl, hf⟩
      have HF4 := hid (HF3.out.trans hf (fun _ _ h => h))
      clear hf hnum
      go_wp2_with (first | fail | still_step | (with_reducible refine wpStill_nil ?_) | (with_reducible refine Flow.Both.mk ?_ ?_) | (with_reducible exact True.intro) | (with_reducible refine Flow.same_mk rfl rfl rfl ?_; go_simp; done) | (with_reducible exact Flow.same_un rfl rfl rfl) | (refine Flow.region_still mixed ?hB ?_; (case hB => decide +kernel)))
      go_at_call 17
      refine (rank_is op _ (HT.out.fr HF4.out)).mono ?_
      rintro e w5 ⟨rfl, rfl⟩
      try rw [FA.out.2]
      go_wp2_with (first | fail | still_step | (with_reducible refine wpStill_nil ?_) | (with_reducible refine Flow.Both.mk ?_ ?_) | (with_reducible exact True.intro) | (with_reducible refine Flow.same_mk rfl rfl rfl ?_; go_simp; done) | (with_reducible exact Flow.same_un rfl rfl rfl) | (refine Flow.region_still mixed ?hB ?_; (case hB => decide +kernel)))
      go_ret
      exact ⟨by simp; try omega, HF4.out.below (Nat.le_refl _) (fun _ _ h => h)⟩
    · rw [if_neg hpos] at hnn
      have hnn := hid hnn
      have HT := hid ht
      clear ht
      go_enter Tryd.func7, Tryd.ntmps7
      go_wp2_with (first | fail | still_step | (with_reducible refine wpStill_nil ?_) | (with_reducible refine Flow.Both.mk ?_ ?_) | (with_reducible exact True.intro) | (with_reducible refine Flow.same_mk rfl rfl rfl ?_; go_simp; done) | (with_reducible exact Flow.same_un rfl rfl rfl) | (refine Flow.region_still mixed ?hB ?_; (case hB => decide +kernel)))
      go_at_call 10
      refine (awake_true w HT.out).mono ?_
      rintro e w1 ⟨rfl, hf⟩
      have HF := hid hf
      clear hf
      go_wp2_with (first | fail | still_step | (with_reducible refine wpStill_nil ?_) | (with_reducible refine Flow.Both.mk ?_ ?_) | (with_reducible exact True.intro) | (with_reducible refine Flow.same_mk rfl rfl rfl ?_; go_simp; done) | (with_reducible exact Flow.same_un rfl rfl rfl) | (refine Flow.region_still mixed ?hB ?_; (case hB => decide +kernel)))
      go_at_call 13
      refine (sign_is op _ (HT.out.fr HF.out)).mono ?_
      rintro e w2 ⟨rfl, rfl⟩
      try rw [FA.out.1]
      go_wp2_with (first | fail | still_step | (with_reducible refine wpStill_nil ?_) | (with_reducible refine Flow.Both.mk ?_ ?_) | (with_reducible exact True.intro) | (with_reducible refine Flow.same_mk rfl rfl rfl ?_; go_simp; done) | (with_reducible exact Flow.same_un rfl rfl rfl) | (refine Flow.region_still mixed ?hB ?_; (case hB => decide +kernel)))
      go_at_call 22
      refine (digits_is n hn.out.1 hn.out.2 _ (HT.out.fr HF.out)).mono ?_
      rintro e w3 ⟨rfl, hf⟩
      have HF3 := hid (HF.out.trans hf (fun _ _ h => h))
      clear hf
      go_wp2_with (first | fail | still_step | (with_reducible refine wpStill_nil ?_) | (with_reducible refine Flow.Both.mk ?_ ?_) | (with_reducible exact True.intro) | (with_reducible refine Flow.same_mk rfl rfl rfl ?_; go_simp; done) | (with_reducible exact Flow.same_un rfl rfl rfl) | (refine Flow.region_still mixed ?hB ?_; (case hB => decide +kernel)))
      go_at_call 20
      have hnum := number_is (bytesV (Lib.itoa n)) (itoa_small n hn.out) w3 (HT.out.fr HF3.out)
      rw [show (bytesV (Lib.itoa n)).data.toList = Lib.itoa n from by simp [bytesV], hnn.out] at hnum
      refine hnum.mono ?_
      rintro e w4 ⟨rfl, hf⟩
      have HF4 := hid (HF3.out.trans hf (fun _ _ h => h))
      clear hf hnum
      go_wp2_with (first | fail | still_step | (with_reducible refine wpStill_nil ?_) | (with_reducible refine Flow.Both.mk ?_ ?_) | (with_reducible exact True.intro) | (with_reducible refine Flow.same_mk rfl rfl rfl ?_; go_simp; done) | (with_reducible exact Flow.same_un rfl rfl rfl) | (refine Flow.region_still mixed ?hB ?_; (case hB => decide +kernel)))
      go_at_call 17
      refine (rank_is op _ (HT.out.fr HF4.out)).mono ?_
      rintro e w5 ⟨rfl, rfl⟩
      try rw [FA.out.2]
      go_wp2_with (first | fail | still_step | (with_reducible refine wpStill_nil ?_) | (with_reducible refine Flow.Both.mk ?_ ?_) | (with_reducible exact True.intro) | (with_reducible refine Flow.same_mk rfl rfl rfl ?_; go_simp; done) | (with_reducible exact Flow.same_un rfl rfl rfl) | (refine Flow.region_still mixed ?hB ?_; (case hB => decide +kernel)))
      go_ret
      exact ⟨by simp; try omega, HF4.out.below (Nat.le_refl _) (fun _ _ h => h)⟩
  · obtain ⟨z, hz⟩ : ∃ z, z = signL op := ⟨_, rfl⟩
    obtain ⟨rk, hrk⟩ : ∃ rk, rk = rankL op := ⟨_, rfl⟩
    rw [← hz] at f1 f3
    rw [← hrk] at f2
    have FA := hid (⟨hz.symm, hrk.symm⟩ : _ ∧ _)
    have F3 := hid f3
    have hem : (bytesV z).toList.isEmpty = false := by
      rw [ByteArray.toList_eq]
      unfold bytesV
      cases z with
      | nil => exact absurd rfl f1
      | cons c z => rfl
    have hrb : (rk == 0) = false := by simpa using f2
    clear f1 f2 f3 hz hrk
    by_cases hpos : 0 ≤ n
    · rw [if_pos hpos] at hnn
      have hnn := hid hnn
      have HT := hid ht
      clear ht
      go_enter Tryd.func7, Tryd.ntmps7
      go_wp2_with (first | fail | still_step | (with_reducible refine wpStill_nil ?_) | (with_reducible refine Flow.Both.mk ?_ ?_) | (with_reducible exact True.intro) | (with_reducible refine Flow.same_mk rfl rfl rfl ?_; go_simp; done) | (with_reducible exact Flow.same_un rfl rfl rfl) | (refine Flow.region_still mixed ?hB ?_; (case hB => decide +kernel)))
      go_at_call 10
      refine (awake_true w HT.out).mono ?_
      rintro e w1 ⟨rfl, hf⟩
      have HF := hid hf
      clear hf
      go_wp2_with (first | fail | still_step | (with_reducible refine wpStill_nil ?_) | (with_reducible refine Flow.Both.mk ?_ ?_) | (with_reducible exact True.intro) | (with_reducible refine Flow.same_mk rfl rfl rfl ?_; go_simp; done) | (with_reducible exact Flow.same_un rfl rfl rfl) | (refine Flow.region_still mixed ?hB ?_; (case hB => decide +kernel)))
      go_at_call 13
      refine (sign_is op _ (HT.out.fr HF.out)).mono ?_
      rintro e w2 ⟨rfl, rfl⟩
      try rw [FA.out.1]
      go_wp2_with (first | fail | still_step | (with_reducible refine wpStill_nil ?_) | (with_reducible refine Flow.Both.mk ?_ ?_) | (with_reducible exact True.intro) | (with_reducible refine Flow.same_mk rfl rfl rfl ?_; go_simp; done) | (with_reducible exact Flow.same_un rfl rfl rfl) | (refine Flow.region_still mixed ?hB ?_; (case hB => decide +kernel)))
      go_at_call 22
      refine (digits_is n hn.out.1 hn.out.2 _ (HT.out.fr HF.out)).mono ?_
      rintro e w3 ⟨rfl, hf⟩
      have HF3 := hid (HF.out.trans hf (fun _ _ h => h))
      clear hf
      go_wp2_with (first | fail | still_step | (with_reducible refine wpStill_nil ?_) | (with_reducible refine Flow.Both.mk ?_ ?_) | (with_reducible exact True.intro) | (with_reducible refine Flow.same_mk rfl rfl rfl ?_; go_simp; done) | (with_reducible exact Flow.same_un rfl rfl rfl) | (refine Flow.region_still mixed ?hB ?_; (case hB => decide +kernel)))
      go_at_call 20
      have hnum := number_is (bytesV (Lib.itoa n)) (itoa_small n hn.out) w3 (HT.out.fr HF3.out)
      rw [show (bytesV (Lib.itoa n)).data.toList = Lib.itoa n from by simp [bytesV], hnn.out] at hnum
      refine hnum.mono ?_
      rintro e w4 ⟨rfl, hf⟩
      have HF4 := hid (HF3.out.trans hf (fun _ _ h => h))
      clear hf hnum
      go_wp2_with (first | fail | still_step | (with_reducible refine wpStill_nil ?_) | (with_reducible refine Flow.Both.mk ?_ ?_) | (with_reducible exact True.intro) | (with_reducible refine Flow.same_mk rfl rfl rfl ?_; go_simp; done) | (with_reducible exact Flow.same_un rfl rfl rfl) | (refine Flow.region_still mixed ?hB ?_; (case hB => decide +kernel)))
      go_at_call 17
      refine (rank_is op _ (HT.out.fr HF4.out)).mono ?_
      rintro e w5 ⟨rfl, rfl⟩
      try rw [FA.out.2]
      go_wp2_with (first | fail | still_step | (with_reducible refine wpStill_nil ?_) | (with_reducible refine Flow.Both.mk ?_ ?_) | (with_reducible exact True.intro) | (with_reducible refine Flow.same_mk rfl rfl rfl ?_; go_simp; done) | (with_reducible exact Flow.same_un rfl rfl rfl) | (refine Flow.region_still mixed ?hB ?_; (case hB => decide +kernel)))
      go_at_call 15
      refine (op_is (bytesV z) _ (HT.out.fr HF4.out)).mono ?_
      rintro e w6 ⟨rfl, rfl⟩
      rw [F3.out]
      go_wp2_with (first | fail | still_step | (with_reducible refine wpStill_nil ?_) | (with_reducible refine Flow.Both.mk ?_ ?_) | (with_reducible exact True.intro) | (with_reducible refine Flow.same_mk rfl rfl rfl ?_; go_simp; done) | (with_reducible exact Flow.same_un rfl rfl rfl) | (refine Flow.region_still mixed ?hB ?_; (case hB => decide +kernel)))
      go_ret
      exact ⟨by simp; try omega, HF4.out.below (Nat.le_refl _) (fun _ _ h => h)⟩
    · rw [if_neg hpos] at hnn
      have hnn := hid hnn
      have HT := hid ht
      clear ht
      go_enter Tryd.func7, Tryd.ntmps7
      go_wp2_with (first | fail | still_step | (with_reducible refine wpStill_nil ?_) | (with_reducible refine Flow.Both.mk ?_ ?_) | (with_reducible exact True.intro) | (with_reducible refine Flow.same_mk rfl rfl rfl ?_; go_simp; done) | (with_reducible exact Flow.same_un rfl rfl rfl) | (refine Flow.region_still mixed ?hB ?_; (case hB => decide +kernel)))
      go_at_call 10
      refine (awake_true w HT.out).mono ?_
      rintro e w1 ⟨rfl, hf⟩
      have HF := hid hf
      clear hf
      go_wp2_with (first | fail | still_step | (with_reducible refine wpStill_nil ?_) | (with_reducible refine Flow.Both.mk ?_ ?_) | (with_reducible exact True.intro) | (with_reducible refine Flow.same_mk rfl rfl rfl ?_; go_simp; done) | (with_reducible exact Flow.same_un rfl rfl rfl) | (refine Flow.region_still mixed ?hB ?_; (case hB => decide +kernel)))
      go_at_call 13
      refine (sign_is op _ (HT.out.fr HF.out)).mono ?_
      rintro e w2 ⟨rfl, rfl⟩
      try rw [FA.out.1]
      go_wp2_with (first | fail | still_step | (with_reducible refine wpStill_nil ?_) | (with_reducible refine Flow.Both.mk ?_ ?_) | (with_reducible exact True.intro) | (with_reducible refine Flow.same_mk rfl rfl rfl ?_; go_simp; done) | (with_reducible exact Flow.same_un rfl rfl rfl) | (refine Flow.region_still mixed ?hB ?_; (case hB => decide +kernel)))
      go_at_call 22
      refine (digits_is n hn.out.1 hn.out.2 _ (HT.out.fr HF.out)).mono ?_
      rintro e w3 ⟨rfl, hf⟩
      have HF3 := hid (HF.out.trans hf (fun _ _ h => h))
      clear hf
      go_wp2_with (first | fail | still_step | (with_reducible refine wpStill_nil ?_) | (with_reducible refine Flow.Both.mk ?_ ?_) | (with_reducible exact True.intro) | (with_reducible refine Flow.same_mk rfl rfl rfl ?_; go_simp; done) | (with_reducible exact Flow.same_un rfl rfl rfl) | (refine Flow.region_still mixed ?hB ?_; (case hB => decide +kernel)))
      go_at_call 20
      have hnum := number_is (bytesV (Lib.itoa n)) (itoa_small n hn.out) w3 (HT.out.fr HF3.out)
      rw [show (bytesV (Lib.itoa n)).data.toList = Lib.itoa n from by simp [bytesV], hnn.out] at hnum
      refine hnum.mono ?_
      rintro e w4 ⟨rfl, hf⟩
      have HF4 := hid (HF3.out.trans hf (fun _ _ h => h))
      clear hf hnum
      go_wp2_with (first | fail | still_step | (with_reducible refine wpStill_nil ?_) | (with_reducible refine Flow.Both.mk ?_ ?_) | (with_reducible exact True.intro) | (with_reducible refine Flow.same_mk rfl rfl rfl ?_; go_simp; done) | (with_reducible exact Flow.same_un rfl rfl rfl) | (refine Flow.region_still mixed ?hB ?_; (case hB => decide +kernel)))
      go_at_call 17
      refine (rank_is op _ (HT.out.fr HF4.out)).mono ?_
      rintro e w5 ⟨rfl, rfl⟩
      try rw [FA.out.2]
      go_wp2_with (first | fail | still_step | (with_reducible refine wpStill_nil ?_) | (with_reducible refine Flow.Both.mk ?_ ?_) | (with_reducible exact True.intro) | (with_reducible refine Flow.same_mk rfl rfl rfl ?_; go_simp; done) | (with_reducible exact Flow.same_un rfl rfl rfl) | (refine Flow.region_still mixed ?hB ?_; (case hB => decide +kernel)))
      go_at_call 15
      refine (op_is (bytesV z) _ (HT.out.fr HF4.out)).mono ?_
      rintro e w6 ⟨rfl, rfl⟩
      rw [F3.out]
      go_wp2_with (first | fail | still_step | (with_reducible refine wpStill_nil ?_) | (with_reducible refine Flow.Both.mk ?_ ?_) | (with_reducible exact True.intro) | (with_reducible refine Flow.same_mk rfl rfl rfl ?_; go_simp; done) | (with_reducible exact Flow.same_un rfl rfl rfl) | (refine Flow.region_still mixed ?hB ?_; (case hB => decide +kernel)))
      go_ret
      exact ⟨by simp; try omega, HF4.out.below (Nat.le_refl _) (fun _ _ h => h)⟩
end Go.Proofs.YtonjhjkhmjfngaaDoor
