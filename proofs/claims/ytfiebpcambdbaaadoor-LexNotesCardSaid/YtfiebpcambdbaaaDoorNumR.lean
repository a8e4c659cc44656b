/-
  The reference of chapter 01: Digits and Number answer as calc's do, for seats in which its other functions do not stand.
-/
import Derived.Test.YtfiebpcambdbaaaDoorNum
import Derived.Lib.ItoaLen
import Derived.Lib.ItoaNum
set_option linter.unusedVariables false
set_option linter.unusedSimpArgs false
set_option maxHeartbeats 4000000
set_option maxRecDepth 8000
namespace Go.Proofs.YtfiebpcambdbaaaDoor
open Go.RowKit
attribute [local irreducible] wpStill wpList Calls CallsIn

theorem wrap_in {n : Int} (h : inI n) : wrap64 n = n := by
  obtain ⟨h1, h2⟩ := h
  unfold wrap64
  omega

theorem toNat48 (d : Nat) (h : d < 10) : (UInt8.ofNat (48 + d)).toNat = 48 + d := by
  rw [UInt8.toNat_ofNat']
  omega

/-- Digits are read as what they show, whatever follows. -/
theorem parse_dec : ∀ (u : Nat), u ≤ 18446744073709551615 → ∀ r : List UInt8, Lib.parseUintM 18446744073709551615 0 (Lib.decDigits u ++ r) = Lib.parseUintM 18446744073709551615 u r := by
  intro u
  induction u using Nat.strongRecOn with
  | ind u ih =>
    intro hu r
    rw [Lib.decDigits]
    by_cases h : u < 10
    · rw [dif_pos h]
      simp only [List.cons_append, List.nil_append, Lib.parseUintM]
      rw [toNat48 u h]
      rw [if_pos (by omega), if_neg (by omega), if_neg (by omega)]
      congr 1
      omega
    · rw [dif_neg h, List.append_assoc, ih (u / 10) (by omega) (by omega)]
      simp only [List.cons_append, List.nil_append, Lib.parseUintM]
      rw [toNat48 (u % 10) (by omega)]
      rw [if_pos (by omega), if_neg (by omega), if_neg (by omega)]
      congr 1
      omega

theorem decDigits_ne (u : Nat) : Lib.decDigits u ≠ [] := by
  intro h
  have := Lib.decDigits_length u
  rw [h] at this
  have := Lib.nDigits_pos u
  simp at *
  omega

theorem num_itoa (n : Int) (h : inI n) : numL (Lib.itoa n) = if 0 ≤ n then (n, true) else (0, false) := by
  obtain ⟨h1, h2⟩ := h
  by_cases hn : 0 ≤ n
  · rw [if_pos hn]
    obtain ⟨u, rfl⟩ : ∃ u : Nat, n = u := ⟨n.toNat, by omega⟩
    have e : Lib.itoa (u : Int) = Lib.decDigits u := by unfold Lib.itoa; rw [if_neg (by omega)]; simp
    have hp : Lib.parseUintB 64 (Lib.decDigits u) = .ok u := by
      unfold Lib.parseUintB
      rw [if_neg (decDigits_ne u)]
      have := parse_dec u (by omega) []
      rw [List.append_nil] at this
      exact this
    rw [e]
    unfold numL
    rw [hp]
    dsimp only
    rw [if_pos ⟨by omega, e⟩]
  · rw [if_neg hn]
    have e : Lib.itoa n = 45 :: Lib.decDigits n.natAbs := by unfold Lib.itoa; rw [if_pos (by omega)]
    rw [e]
    unfold numL
    have hp : Lib.parseUintB 64 (45 :: Lib.decDigits n.natAbs) = Lib.parseUintB 64 [] := by
      unfold Lib.parseUintB
      rw [if_neg (by simp), if_pos rfl]
      unfold Lib.parseUintM
      rw [if_neg (by decide)]
    rw [hp]
    rfl

theorem dec_big (u : Nat) (h : ¬ u < 10) : Lib.decDigits u = Lib.decDigits (u / 10) ++ [UInt8.ofNat (48 + u % 10)] := by
  conv => lhs; rw [Lib.decDigits]
  rw [dif_neg h]
theorem dec_small (u : Nat) (h : u < 10) : Lib.decDigits u = [UInt8.ofNat (48 + u)] := by rw [Lib.decDigits, dif_pos h]

theorem abs_rest (m : Int) : (m.tmod 10).natAbs = m.natAbs % 10 ∧ (m.tdiv 10).natAbs = m.natAbs / 10 ∧ (0 ≤ m → 0 ≤ m.tmod 10) ∧ (m ≤ 0 → m.tmod 10 ≤ 0) := by
  refine ⟨Int.natAbs_tmod m 10, Int.natAbs_tdiv m 10, fun h => Int.tmod_nonneg 10 h, fun h => ?_⟩
  have := Int.tmod_nonneg (a := -m) 10 (by omega)
  rw [Int.neg_tmod] at this
  omega

theorem ext_dig (d : Nat) (h : d ≤ 9) (l : List UInt8) : (⟨#[48, 49, 50, 51, 52, 53, 54, 55, 56, 57]⟩ : ByteArray).extract d (d + 1) ++ bytesV l = bytesV (UInt8.ofNat (48 + d) :: l) := by
  have key : ∀ d : Fin 10, (⟨#[48, 49, 50, 51, 52, 53, 54, 55, 56, 57]⟩ : ByteArray).extract d.val (d.val + 1) = bytesV [UInt8.ofNat (48 + d.val)] := by decide +kernel
  rw [key ⟨d, by omega⟩]
  apply ByteArray.ext
  simp [bytesV]

set_option maxHeartbeats 8000000 in
theorem rdigits_is (n : Int) (hn : inI n) (w : World) : Calls Tryd.prog 33 #[.int .i64 n] w fun e w' => e = .returned (.string (bytesV (Lib.itoa n))) ∧ Fr (fun _ => False) w w' := by
  obtain ⟨z, hz⟩ : ∃ z, z = bytesV (Lib.itoa n) := ⟨_, rfl⟩
  rw [← hz]
  have HZ := hid hz
  have HN := hid hn
  clear hz hn
  go_enter Tryd.func33, Tryd.ntmps33
  go_wp2_with (first | still_step | (with_reducible first | refine wpStill_nil ?_ | refine Flow.Both.mk ?_ ?_ | exact True.intro) | (with_reducible refine Flow.same_mk rfl rfl rfl ?_; go_simp; done) | (with_reducible exact Flow.same_un rfl rfl rfl) | (refine Flow.region_still mixed ?hB ?_; (case hB => decide +kernel)))
  go_loopw [0, 3, 5] (fun x s _ wr => ∃ (m : Int) (l : List UInt8), x = .int .i64 m ∧ s = .string (bytesV l) ∧ Lib.decDigits n.natAbs = Lib.decDigits m.natAbs ++ l ∧ inI m ∧ Fr (fun _ => False) w wr) (fun x _ _ _ => (intOf x).natAbs)
  case atStart => exact ⟨n, [], rfl, rfl, by simp, HN.out, Fr.refl _ _⟩
  case round =>
    obtain ⟨m, l, rfl, rfl, hd, hin, hf⟩ := hrel
    have HF := hid hf
    have hlen : l.length ≤ 21 := by
      have h1 := Lib.itoa_length_le n HN.out.1 HN.out.2
      have h2 := congrArg List.length hd
      rw [List.length_append] at h2
      unfold Lib.itoa at h1
      by_cases hn0 : n < 0
      · rw [if_pos hn0, List.length_cons] at h1; omega
      · rw [if_neg hn0, show n.toNat = n.natAbs by omega] at h1; omega
    obtain ⟨a1, a2, a3, a4⟩ := abs_rest m
    have hq : wrap64 (m.tdiv 10) = m.tdiv 10 := wrap_in (by obtain ⟨i1, i2⟩ := hin; exact ⟨by omega, by omega⟩)
    have HI := hid (show inI (m.tdiv 10) by obtain ⟨i1, i2⟩ := hin; exact ⟨by omega, by omega⟩)
    obtain ⟨b, hb⟩ : ∃ b, b = bytesV l := ⟨_, rfl⟩
    have hbs : b.size = l.length := by rw [hb]; rfl
    have hs1 : ¬ 9223372036854775807 < 1 + b.size := by omega
    have hs2 : ¬ 9223372036854775807 < 1 + (1 + b.size) := by omega
    obtain ⟨d, hdd⟩ : ∃ d : Nat, d = m.natAbs % 10 := ⟨_, rfl⟩
    have hd9 : d ≤ 9 := by omega
    have hext := ext_dig d hd9 l
    rw [← hb] at hext
    rw [← hb]
    have HX := hid hext
    have hsz : ((⟨#[48, 49, 50, 51, 52, 53, 54, 55, 56, 57]⟩ : ByteArray).extract d (d + 1) ++ b).size = 1 + b.size := by
      rw [ByteArray.size_append, ByteArray.size_extract]
      show min (d + 1) 10 - d + b.size = 1 + b.size
      omega
    have hcase : (m.tmod 10 < 0 ∧ m.tmod 10 = -(d : Int)) ∨ (¬ m.tmod 10 < 0 ∧ m.tmod 10 = (d : Int)) := by omega
    by_cases hz : m.tdiv 10 = 0
    · have hfin : bytesV (Lib.decDigits n.natAbs) = (⟨#[48, 49, 50, 51, 52, 53, 54, 55, 56, 57]⟩ : ByteArray).extract d (d + 1) ++ b := by
        rw [hext, hd, dec_small m.natAbs (by omega), show m.natAbs = d by omega]
        rfl
      have hzz : z = if n < 0 then (⟨#[45]⟩ : ByteArray) ++ ((⟨#[48, 49, 50, 51, 52, 53, 54, 55, 56, 57]⟩ : ByteArray).extract d (d + 1) ++ b) else (⟨#[48, 49, 50, 51, 52, 53, 54, 55, 56, 57]⟩ : ByteArray).extract d (d + 1) ++ b := by
        rw [HZ.out, ← hfin]
        unfold Lib.itoa
        by_cases hn0 : n < 0
        · rw [if_pos hn0, if_pos hn0]
          apply ByteArray.ext
          simp [bytesV]
        · rw [if_neg hn0, if_neg hn0, show n.toNat = n.natAbs by omega]
      have HZZ := hid hzz
      clear a1 a2 a3 a4 hdd hin hd hlen hbs hext hb hfin hzz
      by_cases hn0 : n < 0
      · have hze := HZZ.out
        rw [if_pos hn0] at hze
        rcases hcase with ⟨c1, c2⟩ | ⟨c1, c2⟩
        all_goals
          rw [c2] at c1
          go_wp2_with (first | still_step | (with_reducible first | refine wpStill_nil ?_ | refine Flow.Both.mk ?_ ?_ | exact True.intro) | (with_reducible refine Flow.same_mk rfl rfl rfl ?_; go_simp; done) | (with_reducible exact Flow.same_un rfl rfl rfl) | (refine Flow.region_still mixed ?hB ?_; (case hB => decide +kernel)))
          go_ret
          exact ⟨by simp <;> exact hze.symm, HF.out⟩
      · have hze := HZZ.out
        rw [if_neg hn0] at hze
        rcases hcase with ⟨c1, c2⟩ | ⟨c1, c2⟩
        all_goals
          rw [c2] at c1
          go_wp2_with (first | still_step | (with_reducible first | refine wpStill_nil ?_ | refine Flow.Both.mk ?_ ?_ | exact True.intro) | (with_reducible refine Flow.same_mk rfl rfl rfl ?_; go_simp; done) | (with_reducible exact Flow.same_un rfl rfl rfl) | (refine Flow.region_still mixed ?hB ?_; (case hB => decide +kernel)))
          go_ret
          exact ⟨by simp <;> exact hze.symm, HF.out⟩
    · have hnew : Lib.decDigits n.natAbs = Lib.decDigits (m.tdiv 10).natAbs ++ (UInt8.ofNat (48 + d) :: l) := by
        rw [hd, dec_big m.natAbs (by omega), a2, ← hdd, List.append_assoc]
        rfl
      have HNEW := hid hnew
      have hmea : (wrap64 (m.tdiv 10)).natAbs < m.natAbs := by rw [hq]; omega
      clear a1 a2 a3 a4 hdd hin hd hlen hbs hext hb hnew
      rcases hcase with ⟨c1, c2⟩ | ⟨c1, c2⟩
      all_goals
        rw [c2] at c1
        go_wp2_with (first | still_step | (with_reducible first | refine wpStill_nil ?_ | refine Flow.Both.mk ?_ ?_ | exact True.intro) | (with_reducible refine Flow.same_mk rfl rfl rfl ?_; go_simp; done) | (with_reducible exact Flow.same_un rfl rfl rfl) | (refine Flow.region_still mixed ?hB ?_; (case hB => decide +kernel)))
        go_roundw
        case rel =>
          have hrl : ∃ (m_1 : Int) (l_1 : List UInt8), Value.int .i64 (wrap64 (m.tdiv 10)) = .int .i64 m_1 ∧ Value.string ((⟨#[48, 49, 50, 51, 52, 53, 54, 55, 56, 57]⟩ : ByteArray).extract d (d + 1) ++ b) = .string (bytesV l_1) ∧ Lib.decDigits n.natAbs = Lib.decDigits m_1.natAbs ++ l_1 ∧ inI m_1 ∧ Fr (fun _ => False) w wr :=
            ⟨m.tdiv 10, UInt8.ofNat (48 + d) :: l, by rw [hq], by rw [HX.out], HNEW.out, HI.out, HF.out⟩
          first | exact hrl | ((repeat apply Exists.intro); exact ⟨hrl, rfl⟩)
        case measure => simpa [intOf] using hmea

/-- The reference's reading: none, where it stops. -/
def rnum (acc : Int) : List UInt8 → Option Int
  | [] => some acc
  | c :: r => if (c.toNat : Int) - 48 < 0 ∨ 9 < (c.toNat : Int) - 48 ∨ (9223372036854775807 - ((c.toNat : Int) - 48)).tdiv 10 < acc then none else rnum (10 * acc + ((c.toNat : Int) - 48)) r

theorem rnum_dec : ∀ (u : Nat), u ≤ 9223372036854775807 → ∀ r : List UInt8, rnum 0 (Lib.decDigits u ++ r) = rnum u r := by
  intro u
  induction u using Nat.strongRecOn with
  | ind u ih =>
    intro hu r
    have hdiv : ∀ d : Nat, d < 10 → (9223372036854775807 - ((48 + d : Nat) : Int) + 48).tdiv 10 = (9223372036854775807 - (d : Int)) / 10 := fun d hd => by
      rw [show 9223372036854775807 - ((48 + d : Nat) : Int) + 48 = 9223372036854775807 - (d : Int) by omega, Int.tdiv_eq_ediv_of_nonneg (by omega)]
    by_cases h : u < 10
    · rw [dec_small u h]
      simp only [List.cons_append, List.nil_append, rnum]
      rw [toNat48 u h]
      rw [show (9223372036854775807 - (((48 + u : Nat) : Int) - 48)) = 9223372036854775807 - (u : Int) by omega, Int.tdiv_eq_ediv_of_nonneg (by omega)]
      rw [if_neg (by omega)]
      congr 1
      omega
    · rw [dec_big u h, List.append_assoc, ih (u / 10) (by omega) (by omega)]
      simp only [List.cons_append, List.nil_append, rnum]
      rw [toNat48 (u % 10) (by omega)]
      rw [show (9223372036854775807 - (((48 + u % 10 : Nat) : Int) - 48)) = 9223372036854775807 - ((u % 10 : Nat) : Int) by omega, Int.tdiv_eq_ediv_of_nonneg (by omega)]
      rw [if_neg (by omega)]
      congr 1
      omega

/-- A text that a number's digits are is read as that number. -/
theorem num_of_eq {s : List UInt8} {n : Int} (hn : inI n) (h0 : 0 ≤ n) (h : Lib.itoa n = s) : numL s = (n, true) ∧ rnum 0 s = some n ∧ s ≠ [] ∧ s.length ≤ 19 := by
  have h1 := num_itoa n hn
  rw [h, if_pos h0] at h1
  obtain ⟨u, rfl⟩ : ∃ u : Nat, n = u := ⟨n.toNat, by omega⟩
  have e : Lib.itoa (u : Int) = Lib.decDigits u := by unfold Lib.itoa; rw [if_neg (by omega)]; simp
  rw [e] at h
  have h2 := rnum_dec u (by have := hn.2; omega) []
  rw [List.append_nil, h] at h2
  refine ⟨h1, by rw [h2]; rfl, by rw [← h]; exact decDigits_ne u, ?_⟩
  rw [← h, Lib.decDigits_length]
  rcases Nat.lt_or_ge 19 (Lib.nDigits u) with hh | hh
  · have := hn.2
    have h3 : 10 ^ 19 ≤ u := by
      have := Lib.nDigits_unique
      by_cases hlt : u < 10 ^ 19
      · exfalso
        have hle : ∀ k, u < 10 ^ (k + 1) → Lib.nDigits u ≤ k + 1 := by
          intro k
          induction k with
          | zero => intro h; rw [Lib.nDigits_small (by simpa using h)]; exact Nat.le_refl _
          | succ k ih =>
            intro h
            by_cases h2 : u < 10 ^ (k + 1)
            · exact Nat.le_succ_of_le (ih h2)
            · rw [Lib.nDigits_unique (k + 1) u (by omega) h]; exact Nat.le_refl _
        have := hle 18 hlt
        omega
      · omega
    omega
  · exact hh

theorem num_false {s : List UInt8} (h : ∀ n : Int, inI n → 0 ≤ n → Lib.itoa n ≠ s) : numL s = (0, false) := by
  unfold numL
  split
  · rename_i u hp
    rw [if_neg]
    rintro ⟨h1, h2⟩
    exact h u ⟨by omega, by omega⟩ (by omega) h2
  · rfl
set_option maxHeartbeats 8000000 in
theorem rnumber_is (s : ByteArray) (hs : s.size ≤ 1000000) (w : World) : Calls Tryd.prog 22 #[.string s] w fun e w' => (∃ v, e = .returned (.tuple #[.int .i64 v, .bool (numL s.data.toList).2]) ∧ ((numL s.data.toList).2 = true → v = (numL s.data.toList).1)) ∧ Fr (fun _ => False) w w' := by
  obtain ⟨q, hq⟩ : ∃ q, q = numL s.data.toList := ⟨_, rfl⟩
  rw [← hq]
  have HQ := hid hq
  clear hq
  have hfin : ∀ (F : Prop), True := fun _ => trivial
  by_cases he : s.toList.isEmpty = true
  · have hq2 : q = (0, false) := by
      rw [HQ.out]
      apply num_false
      intro n hn h0 hi
      have hl : s.data.toList = [] := by
        rw [ByteArray.toList_eq] at he
        simpa using he
      exact (num_of_eq hn h0 hi).2.2.1 hl
    subst hq2
    go_enter Tryd.func22, Tryd.ntmps22
    go_wp2_with (first | still_step | (with_reducible first | refine wpStill_nil ?_ | refine Flow.Both.mk ?_ ?_ | exact True.intro) | (with_reducible refine Flow.same_mk rfl rfl rfl ?_; go_simp; done) | (with_reducible exact Flow.same_un rfl rfl rfl) | (refine Flow.region_still mixed ?hB ?_; (case hB => decide +kernel)))
    exact bodyPost_ret (v := .tuple #[.int .i64 0, .bool false]) (by simp [results, Tryd.results22, go_sem]) rfl ⟨⟨0, rfl, fun h => by cases h⟩, by (with_reducible repeat' (first | exact Fr.refl _ _ | apply Fr.alloc | apply Fr.drew | apply Fr.drewN | refine Fr.setCell ?_ ?_ _))⟩
  · have he : s.toList.isEmpty = false := by simpa using he
    by_cases hl : s.size ≤ 19
    · obtain ⟨L, hL⟩ : ∃ L, L = s.size := ⟨_, rfl⟩
      have HL := hid hL
      have hll : s.data.toList.length = L := by rw [hL]; simp
      clear hL
      go_enter Tryd.func22, Tryd.ntmps22
      go_wp2_with (first | still_step | (with_reducible first | refine wpStill_nil ?_ | refine Flow.Both.mk ?_ ?_ | exact True.intro) | (with_reducible refine Flow.same_mk rfl rfl rfl ?_; go_simp; done) | (with_reducible exact Flow.same_un rfl rfl rfl) | (refine Flow.region_still mixed ?hB ?_; (case hB => decide +kernel)))
      go_loopw [4, 5, 6] (fun x i _ wr => ∃ (k : Nat) (acc : Int), k ≤ s.size ∧ i = .int .i64 k ∧ x = .int .i64 acc ∧ 0 ≤ acc ∧ acc ≤ 9223372036854775807 ∧ rnum 0 s.data.toList = rnum acc (s.data.toList.drop k) ∧ Fr (fun _ => False) w wr) (fun _ i _ _ => s.size - (intOf i).toNat)
      case atStart => exact ⟨0, 0, Nat.zero_le _, rfl, rfl, Int.le_refl _, by decide, by simp, Fr.refl _ _⟩
      case round =>
        obtain ⟨k, acc, hk, rfl, rfl, hc0, hc1, hr, hf⟩ := hrel
        have HF := hid hf
        have HR := hid hr
        clear hf hr
        by_cases hlt : k < s.size
        · have hkl : k < s.data.toList.length := by rw [hll, HL.out]; exact hlt
          have hdrop : s.data.toList.drop k = s.data.toList[k] :: s.data.toList.drop (k + 1) := List.drop_eq_getElem_cons hkl
          have hck : s.data.toList[k] = s[k] := by simp; rfl
          rw [hck] at hdrop
          have hc := s[k].toNat_lt
          obtain ⟨D, hD⟩ : ∃ D : Int, D = wrap64 (wrap64 ((s[k].toNat : Nat) : Int) - 48) := ⟨_, rfl⟩
          have hDc : D = (s[k].toNat : Int) - 48 := by rw [hD, wrap_in (n := ((s[k].toNat : Nat) : Int)) ⟨by omega, by omega⟩]; exact wrap_in ⟨by omega, by omega⟩
          have hstep : rnum 0 s.data.toList = if D < 0 ∨ 9 < D ∨ (9223372036854775807 - D).tdiv 10 < acc then none else rnum (10 * acc + D) (s.data.toList.drop (k + 1)) := by
            rw [HR.out, hdrop, rnum, hDc]
          have hno : rnum 0 s.data.toList = none → q = (0, false) := fun h => by
            rw [HQ.out]
            apply num_false
            intro n hn h0 hi
            rw [(num_of_eq hn h0 hi).2.1] at h
            cases h
          have HST := hid hstep
          clear hstep hdrop hck hc
          by_cases t1 : D < 0
          · have hq2 := hno (by rw [HST.out, if_pos (.inl t1)])
            subst hq2
            rw [hD] at t1
            clear hno hDc hD
            go_wp2_with (first | still_step | (with_reducible first | refine wpStill_nil ?_ | refine Flow.Both.mk ?_ ?_ | exact True.intro) | (with_reducible refine Flow.same_mk rfl rfl rfl ?_; go_simp; done) | (with_reducible exact Flow.same_un rfl rfl rfl) | (refine Flow.region_still mixed ?hB ?_; (case hB => decide +kernel)))
            refine bodyPost_ret (v := .tuple #[.int .i64 0, .bool false]) (by simp [results, Tryd.results22, go_sem]) rfl ?_
            constructor <;> first | exact HF.out | simp
          · by_cases t2 : 9 < D
            · have hq2 := hno (by rw [HST.out, if_pos (.inr (.inl t2))])
              subst hq2
              rw [hD] at t1 t2
              clear hno hDc hD
              go_wp2_with (first | still_step | (with_reducible first | refine wpStill_nil ?_ | refine Flow.Both.mk ?_ ?_ | exact True.intro) | (with_reducible refine Flow.same_mk rfl rfl rfl ?_; go_simp; done) | (with_reducible exact Flow.same_un rfl rfl rfl) | (refine Flow.region_still mixed ?hB ?_; (case hB => decide +kernel)))
              refine bodyPost_ret (v := .tuple #[.int .i64 0, .bool false]) (by simp [results, Tryd.results22, go_sem]) rfl ?_
              constructor <;> first | exact HF.out | simp
            · have t3e : (9223372036854775807 - D).tdiv 10 = (9223372036854775807 - D) / 10 := Int.tdiv_eq_ediv_of_nonneg (by omega)
              rw [t3e] at HST
              by_cases t3 : (9223372036854775807 - D) / 10 < acc
              · have hq2 := hno (by rw [HST.out, if_pos (.inr (.inr t3))])
                subst hq2
                have u1 : ¬ ((s[k].toNat : Int) - 48 < 0) := by omega
                have u2 : ¬ (9 < (s[k].toNat : Int) - 48) := by omega
                have u3 : (9223372036854775807 - ((s[k].toNat : Int) - 48)) / 10 < acc := by omega
                have u4 : 48 ≤ (s[k].toNat : Int) := by omega
                rw [hD] at t1 t2 t3
                clear hno hDc hD t3e
                go_wp2_with (first | still_step | (with_reducible first | refine wpStill_nil ?_ | refine Flow.Both.mk ?_ ?_ | exact True.intro) | (with_reducible refine Flow.same_mk rfl rfl rfl ?_; go_simp; done) | (with_reducible exact Flow.same_un rfl rfl rfl) | (refine Flow.region_still mixed ?hB ?_; (case hB => decide +kernel)))
                refine bodyPost_ret (v := .tuple #[.int .i64 0, .bool false]) (by simp [results, Tryd.results22, go_sem]) rfl ?_
                constructor <;> first | exact HF.out | simp
              · have hnext : rnum 0 s.data.toList = rnum (10 * acc + D) (s.data.toList.drop (k + 1)) := by rw [HST.out, if_neg (by omega)]
                have HNX := hid hnext
                have hb1 : 0 ≤ 10 * acc + D := by omega
                have hb2 : 10 * acc + D ≤ 9223372036854775807 := by omega
                have HB := hid (⟨hb1, hb2⟩ : _ ∧ _)
                have hDD := hid hDc
                have u1 : ¬ ((s[k].toNat : Int) - 48 < 0) := by omega
                have u2 : ¬ (9 < (s[k].toNat : Int) - 48) := by omega
                have u3 : ¬ ((9223372036854775807 - ((s[k].toNat : Int) - 48)) / 10 < acc) := by omega
                have u4 : 48 ≤ (s[k].toNat : Int) := by omega
                rw [hDc] at hb1 hb2
                rw [hD] at t1 t2 t3
                clear hno hD t3e hnext
                clear hDc
                go_wp2_with (first | still_step | (with_reducible first | refine wpStill_nil ?_ | refine Flow.Both.mk ?_ ?_ | exact True.intro) | (with_reducible refine Flow.same_mk rfl rfl rfl ?_; go_simp; done) | (with_reducible exact Flow.same_un rfl rfl rfl) | (refine Flow.region_still mixed ?hB ?_; (case hB => decide +kernel)))
                go_roundw
                case rel =>
                  have hrl : ∃ (k_1 : Nat) (acc_1 : Int), k_1 ≤ s.size ∧ Value.int .i64 ((k : Int) + 1) = .int .i64 k_1 ∧ Value.int .i64 (10 * acc + ((s[k].toNat : Int) - 48)) = .int .i64 acc_1 ∧ 0 ≤ acc_1 ∧ acc_1 ≤ 9223372036854775807 ∧ rnum 0 s.data.toList = rnum acc_1 (s.data.toList.drop k_1) ∧ Fr (fun _ => False) w wr :=
                    ⟨k + 1, 10 * acc + D, by omega, by go_num, by rw [hDD.out], HB.out.1, HB.out.2, HNX.out, HF.out⟩
                  first | exact hrl | ((repeat apply Exists.intro); exact ⟨hrl, rfl⟩)
                case measure => simp [intOf]; omega
        · have hkk : k = s.size := by omega
          subst hkk
          have hra : rnum 0 s.data.toList = some acc := by
            rw [HR.out, List.drop_of_length_le (by rw [hll, HL.out]; exact Nat.le_refl _)]
            rfl
          have hia : inI acc := ⟨by omega, hc1⟩
          have HD := hid (fun w => rdigits_is acc hia w)
          by_cases hi : Lib.itoa acc = s.data.toList
          · have hq2 : q = (acc, true) := by rw [HQ.out]; exact (num_of_eq hia hc0 hi).1
            subst hq2
            have heq : bytesV (Lib.itoa acc) = s := by rw [hi]; unfold bytesV; simp
            have HE := hid heq
            clear hi heq
            go_wp2_with (first | (go_at_call 33; refine (HD.out _).mono ?_; rintro e w2 ⟨rfl, hf⟩; rw [HE.out]; have HF2 := hid (HF.out.trans hf (fun _ _ h => h)); clear hf) | still_step | (with_reducible first | refine wpStill_nil ?_ | refine Flow.Both.mk ?_ ?_ | exact True.intro) | (with_reducible refine Flow.same_mk rfl rfl rfl ?_; go_simp; done) | (with_reducible exact Flow.same_un rfl rfl rfl) | (refine Flow.region_still mixed ?hB ?_; (case hB => decide +kernel)))
            refine bodyPost_ret (v := .tuple #[.int .i64 acc, .bool true]) (by simp [results, Tryd.results22, go_sem]) rfl ?_
            constructor <;> first | exact HF2.out | simp
          · have hq2 : q = (0, false) := by
              rw [HQ.out]
              apply num_false
              intro n hn h0 hi2
              have := (num_of_eq hn h0 hi2).2.1
              rw [hra] at this
              obtain rfl := Option.some.inj this
              exact hi hi2
            subst hq2
            obtain ⟨z, hz⟩ : ∃ z, z = bytesV (Lib.itoa acc) := ⟨_, rfl⟩
            have hne : z ≠ s := by
              intro e
              rw [hz] at e
              apply hi
              rw [← e]; simp [bytesV]
            have hnb := (Lib.bytes_beq_false_iff z s).2 hne
            have HZ := hid hz
            clear hi hz hne
            go_wp2_with (first | (go_at_call 33; refine (HD.out _).mono ?_; rintro e w2 ⟨rfl, hf⟩; rw [← HZ.out]; have HF2 := hid (HF.out.trans hf (fun _ _ h => h)); clear hf) | still_step | (with_reducible first | refine wpStill_nil ?_ | refine Flow.Both.mk ?_ ?_ | exact True.intro) | (with_reducible refine Flow.same_mk rfl rfl rfl ?_; go_simp; done) | (with_reducible exact Flow.same_un rfl rfl rfl) | (refine Flow.region_still mixed ?hB ?_; (case hB => decide +kernel)))
            refine bodyPost_ret (v := .tuple #[.int .i64 acc, .bool false]) (by simp [results, Tryd.results22, go_sem]) rfl ?_
            constructor <;> first | exact HF2.out | simp
    · have hq2 : q = (0, false) := by
        rw [HQ.out]
        apply num_false
        intro n hn h0 hi
        have := (num_of_eq hn h0 hi).2.2.2
        have e : s.data.toList.length = s.size := by simp
        omega
      subst hq2
      have hl2 : 19 < s.size := by omega
      go_enter Tryd.func22, Tryd.ntmps22
      go_wp2_with (first | still_step | (with_reducible first | refine wpStill_nil ?_ | refine Flow.Both.mk ?_ ?_ | exact True.intro) | (with_reducible refine Flow.same_mk rfl rfl rfl ?_; go_simp; done) | (with_reducible exact Flow.same_un rfl rfl rfl) | (refine Flow.region_still mixed ?hB ?_; (case hB => decide +kernel)))
      exact bodyPost_ret (v := .tuple #[.int .i64 0, .bool false]) (by simp [results, Tryd.results22, go_sem]) rfl ⟨⟨0, rfl, fun h => by cases h⟩, by (with_reducible repeat' (first | exact Fr.refl _ _ | apply Fr.alloc | apply Fr.drew | apply Fr.drewN | refine Fr.setCell ?_ ?_ _))⟩
end Go.Proofs.YtfiebpcambdbaaaDoor
