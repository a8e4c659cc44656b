/-
  The reference of chapter 01: Digits and Number answer as calc's do.
-/
import Derived.Test.YtonjhjkhmjfngaaDoorRef01s
namespace Go.Proofs.YtonjhjkhmjfngaaDoor
open Go.RowKit
attribute [local irreducible] wpStill wpList Calls CallsIn

theorem dec_big (u : Nat) (h : ¬ u < 10) : Lib.decDigits u = Lib.decDigits (u / 10) ++ [UInt8.ofNat (48 + u % 10)] := by
  conv => lhs; rw [Lib.decDigits]
  rw [dif_neg h]
theorem dec_small (u : Nat) (h : u < 10) : Lib.decDigits u = [UInt8.ofNat (48 + u)] := by rw [Lib.decDigits, dif_pos h]

theorem abs_rest (m : Int) : (m.tmod 10).natAbs = m.natAbs % 10 ∧ (m.tdiv 10).natAbs = m.natAbs / 10 ∧ (0 ≤ m → 0 ≤ m.tmod 10) ∧ (m ≤ 0 → m.tmod 10 ≤ 0) := by
  refine ⟨Int.natAbs_tmod m 10, Int.natAbs_tdiv m 10, fun h => Int.tmod_nonneg 10 h, fun h => ?_⟩
  have := Int.tmod_nonneg (a := -m) 10 (by omega)
  rw [Int.neg_tmod] at this
  omega

theorem ext_dig (d : Nat) (h : d ≤ 9) (l : List UInt8) : (⟨#[48, 49, 50, 51, 52, 53, 54, 55, 56, 57]⟩ : ByteArray).extract d (d + 1) ++ bytesV l = bytesV (UInt8.ofNat (48 + d) :: l) := by
  have key : ∀ d : Fin 10, (⟨#[48, 49, 50, 51, 52, 53, 54, 55, 56, 57]⟩ : ByteArray).extract d.val (d.val + 1) = bytesV [UInt8.ofNat (48 + d.val)] := by decide +kernel
  rw [key ⟨d, by omega⟩]
  apply ByteArray.ext
  simp [bytesV]

set_option maxHeartbeats 8000000 in
theorem rdigits_is (n : Int) (hn : inI n) (w : World) : Calls Tryd.prog 23 #[.int .i64 n] w fun e w' => e = .returned (.string (bytesV (Lib.itoa n))) ∧ Fr (fun _ => False) w w' := by
  obtain ⟨z, hz⟩ : ∃ z, z = bytesV (Lib.itoa n) := ⟨_, rfl⟩
  rw [← hz]
  have HZ := hid hz
  have HN := hid hn
  clear hz hn
  go_enter Tryd.func23, Tryd.ntmps23
  go_wp2_with (first | fail | still_step | (with_reducible refine wpStill_nil ?_) | (with_reducible refine Flow.Both.mk ?_ ?_) | (with_reducible exact True.intro) | (with_reducible refine Flow.same_mk rfl rfl rfl ?_; go_simp; done) | (with_reducible exact Flow.same_un rfl rfl rfl) | (refine Flow.region_still mixed ?hB ?_; (case hB => decide +kernel)))
  go_loopw [0, 3, 5] (fun x s _ wr => ∃ (m : Int) (l : List UInt8), x = .int .i64 m ∧ s = .string (bytesV l) ∧ Lib.decDigits n.natAbs = Lib.decDigits m.natAbs ++ l ∧ inI m ∧ Fr (fun _ => False) w wr) (fun x _ _ _ => (intOf x).natAbs)
  case atStart => exact ⟨n, [], rfl, rfl, by simp, HN.out, Fr.refl _ _⟩
  case round =>
    obtain ⟨m, l, rfl, rfl, hd, hin, hf⟩ := hrel
    have HF := hid hf
    have hlen : l.length ≤ 21 := by
      have h1 := Lib.itoa_length_le n HN.out.1 HN.out.2
      have h2 := congrArg List.length hd
      rw [List.length_append] at h2
      unfold Lib.itoa at h1
      by_cases hn0 : n < 0
      · rw [if_pos hn0, List.length_cons] at h1; omega
      · rw [if_neg hn0, show n.toNat = n.natAbs by omega] at h1; omega
    obtain ⟨a1, a2, a3, a4⟩ := abs_rest m
    have hq : wrap64 (m.tdiv 10) = m.tdiv 10 := wrap_in (by obtain ⟨i1, i2⟩ := hin; exact ⟨by omega, by omega⟩)
    have HI := hid (show inI (m.tdiv 10) by obtain ⟨i1, i2⟩ := hin; exact ⟨by omega, by omega⟩)
    obtain ⟨b, hb⟩ : ∃ b, b = bytesV l := ⟨_, rfl⟩
    have hbs : b.size = l.length := by rw [hb]; rfl
    have hs1 : ¬ 9223372036854775807 < 1 + b.size := by omega
    have hs2 : ¬ 9223372036854775807 < 1 + (1 + b.size) := by omega
    obtain ⟨d, hdd⟩ : ∃ d : Nat, d = m.natAbs % 10 := ⟨_, rfl⟩
    have hd9 : d ≤ 9 := by omega
    have hext := ext_dig d hd9 l
    rw [← hb] at hext
    rw [← hb]
    have HX := hid hext
    have hsz : ((⟨#[48, 49, 50, 51, 52, 53, 54, 55, 56, 57]⟩ : ByteArray).extract d (d + 1) ++ b).size = 1 + b.size := by
      rw [ByteArray.size_append, ByteArray.size_extract]
      show min (d + 1) 10 - d + b.size = 1 + b.size
      omega
    have hcase : (m.tmod 10 < 0 ∧ m.tmod 10 = -(d : Int)) ∨ (¬ m.tmod 10 < 0 ∧ m.tmod 10 = (d : Int)) := by omega
    by_cases hz : m.tdiv 10 = 0
    · have hfin : bytesV (Lib.decDigits n.natAbs) = (⟨#[48, 49, 50, 51, 52, 53, 54, 55, 56, 57]⟩ : ByteArray).extract d (d + 1) ++ b := by
        rw [hext, hd, dec_small m.natAbs (by omega), show m.natAbs = d by omega]
        rfl
      have hzz : z = if n < 0 then (⟨#[45]⟩ : ByteArray) ++ ((⟨#[48, 49, 50, 51, 52, 53, 54, 55, 56, 57]⟩ : ByteArray).extract d (d + 1) ++ b) else (⟨#[48, 49, 50, 51, 52, 53, 54, 55, 56, 57]⟩ : ByteArray).extract d (d + 1) ++ b := by
        rw [HZ.out, ← hfin]
        unfold Lib.itoa
        by_cases hn0 : n < 0
        · rw [if_pos hn0, if_pos hn0]
          apply ByteArray.ext
          simp [bytesV]
        · rw [if_neg hn0, if_neg hn0, show n.toNat = n.natAbs by omega]
      have HZZ := hid hzz
      clear a1 a2 a3 a4 hdd hin hd hlen hbs hext hb hfin hzz
      by_cases hn0 : n < 0
      · have hze := HZZ.out
        rw [if_pos hn0] at hze
        rcases hcase with ⟨c1, c2⟩ | ⟨c1, c2⟩
        all_goals
          rw [c2] at c1
          go_wp2_with (first | fail | still_step | (with_reducible refine wpStill_nil ?_) | (with_reducible refine Flow.Both.mk ?_ ?_) | (with_reducible exact True.intro) | (with_reducible refine Flow.same_mk rfl rfl rfl ?_; go_simp; done) | (with_reducible exact Flow.same_un rfl rfl rfl) | (refine Flow.region_still mixed ?hB ?_; (case hB => decide +kernel)))
          go_ret
          exact ⟨by simp <;> exact hze.symm, HF.out⟩
      · have hze := HZZ.out
        rw [if_neg hn0] at hze
        rcases hcase with ⟨c1, c2⟩ | ⟨c1, c2⟩
        all_goals
          rw [c2] at c1
          go_wp2_with (first | fail | still_step | (with_reducible refine wpStill_nil ?_) | (with_reducible refine Flow.Both.mk ?_ ?_) | (with_reducible exact True.intro) | (with_reducible refine Flow.same_mk rfl rfl rfl ?_; go_simp; done) | (with_reducible exact Flow.same_un rfl rfl rfl) | (refine Flow.region_still mixed ?hB ?_; (case hB => decide +kernel)))
          go_ret
          exact ⟨by simp <;> exact hze.symm, HF.out⟩
    · have hnew : Lib.decDigits n.natAbs = Lib.decDigits (m.tdiv 10).natAbs ++ (UInt8.ofNat (48 + d) :: l) := by
        rw [hd, dec_big m.natAbs (by omega), a2, ← hdd, List.append_assoc]
        rfl
      have HNEW := hid hnew
      have hmea : (wrap64 (m.tdiv 10)).natAbs < m.natAbs := by rw [hq]; omega
      clear a1 a2 a3 a4 hdd hin hd hlen hbs hext hb hnew
      rcases hcase with ⟨c1, c2⟩ | ⟨c1, c2⟩
      all_goals
        rw [c2] at c1
        go_wp2_with (first | fail | still_step | (with_reducible refine wpStill_nil ?_) | (with_reducible refine Flow.Both.mk ?_ ?_) | (with_reducible exact True.intro) | (with_reducible refine Flow.same_mk rfl rfl rfl ?_; go_simp; done) | (with_reducible exact Flow.same_un rfl rfl rfl) | (refine Flow.region_still mixed ?hB ?_; (case hB => decide +kernel)))
        go_roundw
        case rel =>
          have hrl : ∃ (m_1 : Int) (l_1 : List UInt8), Value.int .i64 (wrap64 (m.tdiv 10)) = .int .i64 m_1 ∧ Value.string ((⟨#[48, 49, 50, 51, 52, 53, 54, 55, 56, 57]⟩ : ByteArray).extract d (d + 1) ++ b) = .string (bytesV l_1) ∧ Lib.decDigits n.natAbs = Lib.decDigits m_1.natAbs ++ l_1 ∧ inI m_1 ∧ Fr (fun _ => False) w wr :=
            ⟨m.tdiv 10, UInt8.ofNat (48 + d) :: l, by rw [hq], by rw [HX.out], HNEW.out, HI.out, HF.out⟩
          first | exact hrl | ((repeat apply Exists.intro); exact ⟨hrl, rfl⟩)
        case measure => simpa [intOf] using hmea

/-- The reference's reading: none, where it stops. -/
def rnum (acc : Int) : List UInt8 → Option Int
  | [] => some acc
  | c :: r => if (c.toNat : Int) - 48 < 0 ∨ 9 < (c.toNat : Int) - 48 ∨ (9223372036854775807 - ((c.toNat : Int) - 48)).tdiv 10 < acc then none else rnum (10 * acc + ((c.toNat : Int) - 48)) r

theorem rnum_dec : ∀ (u : Nat), u ≤ 9223372036854775807 → ∀ r : List UInt8, rnum 0 (Lib.decDigits u ++ r) = rnum u r := by
  intro u
  induction u using Nat.strongRecOn with
  | ind u ih =>
    intro hu r
    have hdiv : ∀ d : Nat, d < 10 → (9223372036854775807 - ((48 + d : Nat) : Int) + 48).tdiv 10 = (9223372036854775807 - (d : Int)) / 10 := fun d hd => by
      rw [show 9223372036854775807 - ((48 + d : Nat) : Int) + 48 = 9223372036854775807 - (d : Int) by omega, Int.tdiv_eq_ediv_of_nonneg (by omega)]
    by_cases h : u < 10
    · rw [dec_small u h]
      simp only [List.cons_append, List.nil_append, rnum]
      rw [toNat48 u h]
      rw [show (9223372036854775807 - (((48 + u : Nat) : Int) - 48)) = 9223372036854775807 - (u : Int) by omega, Int.tdiv_eq_ediv_of_nonneg (by omega)]
      rw [if_neg (by omega)]
      congr 1
      omega
    · rw [dec_big u h, List.append_assoc, ih (u / 10) (by omega) (by omega)]
      simp only [List.cons_append, List.nil_append, rnum]
      rw [toNat48 (u % 10) (by omega)]
      rw [show (9223372036854775807 - (((48 + u % 10 : Nat) : Int) - 48)) = 9223372036854775807 - ((u % 10 : Nat) : Int) by omega, Int.tdiv_eq_ediv_of_nonneg (by omega)]
      rw [if_neg (by omega)]
      congr 1
      omega

/-- A text that a number's digits are is read as that number. -/
theorem num_of_eq {s : List UInt8} {n : Int} (hn : inI n) (h0 : 0 ≤ n) (h : Lib.itoa n = s) : numL s = (n, true) ∧ rnum 0 s = some n ∧ s ≠ [] ∧ s.length ≤ 19 := by
  have h1 := num_itoa n hn
  rw [h, if_pos h0] at h1
  obtain ⟨u, rfl⟩ : ∃ u : Nat, n = u := ⟨n.toNat, by omega⟩
  have e : Lib.itoa (u : Int) = Lib.decDigits u := by unfold Lib.itoa; rw [if_neg (by omega)]; simp
  rw [e] at h
  have h2 := rnum_dec u (by have := hn.2; omega) []
  rw [List.append_nil, h] at h2
  refine ⟨h1, by rw [h2]; rfl, by rw [← h]; exact decDigits_ne u, ?_⟩
  rw [← h, Lib.decDigits_length]
  rcases Nat.lt_or_ge 19 (Lib.nDigits u) with hh | hh
  · have := hn.2
    have h3 : 10 ^ 19 ≤ u := by
      have := Lib.nDigits_unique
      by_cases hlt : u < 10 ^ 19
      · exfalso
        have hle : ∀ k, u < 10 ^ (k + 1) → Lib.nDigits u ≤ k + 1 := by
          intro k
          induction k with
          | zero => intro h; rw [Lib.nDigits_small (by simpa using h)]; exact Nat.le_refl _
          | succ k ih =>
            intro h
            by_cases h2 : u < 10 ^ (k + 1)
            · exact Nat.le_succ_of_le (ih h2)
            · rw [Lib.nDigits_unique (k + 1) u (by omega) h]; exact Nat.le_refl _
        have := hle 18 hlt
        omega
      · omega
    omega
  · exact hh

theorem num_false {s : List UInt8} (h : ∀ n : Int, inI n → 0 ≤ n → Lib.itoa n ≠ s) : numL s = (0, false) := by
  unfold numL
  split
  · rename_i u hp
    rw [if_neg]
    rintro ⟨h1, h2⟩
    exact h u ⟨by omega, by omega⟩ (by omega) h2
  · rfl
end Go.Proofs.YtonjhjkhmjfngaaDoor
