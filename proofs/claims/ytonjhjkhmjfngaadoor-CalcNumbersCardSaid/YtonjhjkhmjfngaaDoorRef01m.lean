/-
  The reference of chapter 01: Number answers as calc's do.
-/
import Derived.Test.YtonjhjkhmjfngaaDoorRef01n
namespace Go.Proofs.YtonjhjkhmjfngaaDoor
open Go.RowKit
attribute [local irreducible] wpStill wpList Calls CallsIn

set_option maxHeartbeats 8000000 in
theorem rnumber_is (s : ByteArray) (hs : s.size ≤ 60) (w : World) : Calls Tryd.prog 21 #[.string s] w fun e w' => (∃ v, e = .returned (.tuple #[.int .i64 v, .bool (numL s.data.toList).2]) ∧ ((numL s.data.toList).2 = true → v = (numL s.data.toList).1)) ∧ Fr (fun _ => False) w w' := by
  obtain ⟨q, hq⟩ : ∃ q, q = numL s.data.toList := ⟨_, rfl⟩
  rw [← hq]
  have HQ := hid hq
  clear hq
  have hfin : ∀ (F : Prop), True := fun _ => trivial
  by_cases he : s.toList.isEmpty = true
  · have hq2 : q = (0, false) := by
      rw [HQ.out]
      apply num_false
      intro n hn h0 hi
      have hl : s.data.toList = [] := by
        rw [ByteArray.toList_eq] at he
        simpa using he
      exact (num_of_eq hn h0 hi).2.2.1 hl
    subst hq2
    go_enter Tryd.func21, Tryd.ntmps21
    go_wp2_with (first | fail | still_step | (with_reducible refine wpStill_nil ?_) | (with_reducible refine Flow.Both.mk ?_ ?_) | (with_reducible exact True.intro) | (with_reducible refine Flow.same_mk rfl rfl rfl ?_; go_simp; done) | (with_reducible exact Flow.same_un rfl rfl rfl) | (refine Flow.region_still mixed ?hB ?_; (case hB => decide +kernel)))
    exact bodyPost_ret (v := .tuple #[.int .i64 0, .bool false]) (by simp [results, Tryd.results21, go_sem]) rfl ⟨⟨0, rfl, fun h => by cases h⟩, by (repeat' (first | with_reducible exact Fr.refl _ _ | with_reducible apply Fr.alloc | with_reducible apply Fr.drew | with_reducible apply Fr.drewN | (with_reducible refine Fr.setCell ?_ ?_ _)))⟩
  · have he : s.toList.isEmpty = false := by simpa using he
    by_cases hl : s.size ≤ 19
    · obtain ⟨L, hL⟩ : ∃ L, L = s.size := ⟨_, rfl⟩
      have HL := hid hL
      have hll : s.data.toList.length = L := by rw [hL]; simp
      clear hL
      go_enter Tryd.func21, Tryd.ntmps21
      go_wp2_with (first | fail | still_step | (with_reducible refine wpStill_nil ?_) | (with_reducible refine Flow.Both.mk ?_ ?_) | (with_reducible exact True.intro) | (with_reducible refine Flow.same_mk rfl rfl rfl ?_; go_simp; done) | (with_reducible exact Flow.same_un rfl rfl rfl) | (refine Flow.region_still mixed ?hB ?_; (case hB => decide +kernel)))
      go_loopw [4, 5, 6] (fun x i _ wr => ∃ (k : Nat) (acc : Int), k ≤ s.size ∧ i = .int .i64 k ∧ x = .int .i64 acc ∧ 0 ≤ acc ∧ acc ≤ 9223372036854775807 ∧ rnum 0 s.data.toList = rnum acc (s.data.toList.drop k) ∧ Fr (fun _ => False) w wr) (fun _ i _ _ => s.size - (intOf i).toNat)
      case atStart => exact ⟨0, 0, Nat.zero_le _, rfl, rfl, Int.le_refl _, by decide, by simp, Fr.refl _ _⟩
      case round =>
        obtain ⟨k, acc, hk, rfl, rfl, hc0, hc1, hr, hf⟩ := hrel
        have HF := hid hf
        have HR := hid hr
        clear hf hr
        by_cases hlt : k < s.size
        · have hkl : k < s.data.toList.length := by rw [hll, HL.out]; exact hlt
          have hdrop : s.data.toList.drop k = s.data.toList[k] :: s.data.toList.drop (k + 1) := List.drop_eq_getElem_cons hkl
          have hck : s.data.toList[k] = s[k] := by simp; rfl
          rw [hck] at hdrop
          have hc := s[k].toNat_lt
          obtain ⟨D, hD⟩ : ∃ D : Int, D = wrap64 (wrap64 ((s[k].toNat : Nat) : Int) - 48) := ⟨_, rfl⟩
          have hDc : D = (s[k].toNat : Int) - 48 := by rw [hD, wrap_in (n := ((s[k].toNat : Nat) : Int)) ⟨by omega, by omega⟩]; exact wrap_in ⟨by omega, by omega⟩
          have hstep : rnum 0 s.data.toList = if D < 0 ∨ 9 < D ∨ (9223372036854775807 - D).tdiv 10 < acc then none else rnum (10 * acc + D) (s.data.toList.drop (k + 1)) := by
            rw [HR.out, hdrop, rnum, hDc]
          have hno : rnum 0 s.data.toList = none → q = (0, false) := fun h => by
            rw [HQ.out]
            apply num_false
            intro n hn h0 hi
            rw [(num_of_eq hn h0 hi).2.1] at h
            cases h
          have HST := hid hstep
          clear hstep hdrop hck hc
          by_cases t1 : D < 0
          · have hq2 := hno (by rw [HST.out, if_pos (.inl t1)])
            subst hq2
            rw [hD] at t1
            clear hno hDc hD
            go_wp2_with (first | fail | still_step | (with_reducible refine wpStill_nil ?_) | (with_reducible refine Flow.Both.mk ?_ ?_) | (with_reducible exact True.intro) | (with_reducible refine Flow.same_mk rfl rfl rfl ?_; go_simp; done) | (with_reducible exact Flow.same_un rfl rfl rfl) | (refine Flow.region_still mixed ?hB ?_; (case hB => decide +kernel)))
            refine bodyPost_ret (v := .tuple #[.int .i64 0, .bool false]) (by simp [results, Tryd.results21, go_sem]) rfl ?_
            constructor <;> first | exact HF.out | simp
          · by_cases t2 : 9 < D
            · have hq2 := hno (by rw [HST.out, if_pos (.inr (.inl t2))])
              subst hq2
              rw [hD] at t1 t2
              clear hno hDc hD
              go_wp2_with (first | fail | still_step | (with_reducible refine wpStill_nil ?_) | (with_reducible refine Flow.Both.mk ?_ ?_) | (with_reducible exact True.intro) | (with_reducible refine Flow.same_mk rfl rfl rfl ?_; go_simp; done) | (with_reducible exact Flow.same_un rfl rfl rfl) | (refine Flow.region_still mixed ?hB ?_; (case hB => decide +kernel)))
              refine bodyPost_ret (v := .tuple #[.int .i64 0, .bool false]) (by simp [results, Tryd.results21, go_sem]) rfl ?_
              constructor <;> first | exact HF.out | simp
            · have t3e : (9223372036854775807 - D).tdiv 10 = (9223372036854775807 - D) / 10 := Int.tdiv_eq_ediv_of_nonneg (by omega)
              rw [t3e] at HST
              by_cases t3 : (9223372036854775807 - D) / 10 < acc
              · have hq2 := hno (by rw [HST.out, if_pos (.inr (.inr t3))])
                subst hq2
                have u1 : ¬ ((s[k].toNat : Int) - 48 < 0) := by omega
                have u2 : ¬ (9 < (s[k].toNat : Int) - 48) := by omega
                have u3 : (9223372036854775807 - ((s[k].toNat : Int) - 48)) / 10 < acc := by omega
                have u4 : 48 ≤ (s[k].toNat : Int) := by omega
                rw [hD] at t1 t2 t3
                clear hno hDc hD t3e
                go_wp2_with (first | fail | still_step | (with_reducible refine wpStill_nil ?_) | (with_reducible refine Flow.Both.mk ?_ ?_) | (with_reducible exact True.intro) | (with_reducible refine Flow.same_mk rfl rfl rfl ?_; go_simp; done) | (with_reducible exact Flow.same_un rfl rfl rfl) | (refine Flow.region_still mixed ?hB ?_; (case hB => decide +kernel)))
                refine bodyPost_ret (v := .tuple #[.int .i64 0, .bool false]) (by simp [results, Tryd.results21, go_sem]) rfl ?_
                constructor <;> first | exact HF.out | simp
              · have hnext : rnum 0 s.data.toList = rnum (10 * acc + D) (s.data.toList.drop (k + 1)) := by rw [HST.out, if_neg (by omega)]
                have HNX := hid hnext
                have hb1 : 0 ≤ 10 * acc + D := by omega
                have hb2 : 10 * acc + D ≤ 9223372036854775807 := by omega
                have HB := hid (⟨hb1, hb2⟩ : _ ∧ _)
                have hDD := hid hDc
                have u1 : ¬ ((s[k].toNat : Int) - 48 < 0) := by omega
                have u2 : ¬ (9 < (s[k].toNat : Int) - 48) := by omega
                have u3 : ¬ ((9223372036854775807 - ((s[k].toNat : Int) - 48)) / 10 < acc) := by omega
                have u4 : 48 ≤ (s[k].toNat : Int) := by omega
                rw [hDc] at hb1 hb2
                rw [hD] at t1 t2 t3
                clear hno hD t3e hnext
                clear hDc
                go_wp2_with (first | fail | still_step | (with_reducible refine wpStill_nil ?_) | (with_reducible refine Flow.Both.mk ?_ ?_) | (with_reducible exact True.intro) | (with_reducible refine Flow.same_mk rfl rfl rfl ?_; go_simp; done) | (with_reducible exact Flow.same_un rfl rfl rfl) | (refine Flow.region_still mixed ?hB ?_; (case hB => decide +kernel)))
                go_roundw
                case rel =>
                  have hrl : ∃ (k_1 : Nat) (acc_1 : Int), k_1 ≤ s.size ∧ Value.int .i64 ((k : Int) + 1) = .int .i64 k_1 ∧ Value.int .i64 (10 * acc + ((s[k].toNat : Int) - 48)) = .int .i64 acc_1 ∧ 0 ≤ acc_1 ∧ acc_1 ≤ 9223372036854775807 ∧ rnum 0 s.data.toList = rnum acc_1 (s.data.toList.drop k_1) ∧ Fr (fun _ => False) w wr :=
                    ⟨k + 1, 10 * acc + D, by omega, by go_num, by rw [hDD.out], HB.out.1, HB.out.2, HNX.out, HF.out⟩
                  first | exact hrl | ((repeat apply Exists.intro); exact ⟨hrl, rfl⟩)
                case measure => simp [intOf]; omega
        · have hkk : k = s.size := by omega
          subst hkk
          have hra : rnum 0 s.data.toList = some acc := by
            rw [HR.out, List.drop_of_length_le (by rw [hll, HL.out]; exact Nat.le_refl _)]
            rfl
          have hia : inI acc := ⟨by omega, hc1⟩
          have HD := hid (fun w => rdigits_is acc hia w)
          by_cases hi : Lib.itoa acc = s.data.toList
          · have hq2 : q = (acc, true) := by rw [HQ.out]; exact (num_of_eq hia hc0 hi).1
            subst hq2
            have heq : bytesV (Lib.itoa acc) = s := by rw [hi]; unfold bytesV; simp
            have HE := hid heq
            clear hi heq
            go_wp2_with (first | (go_at_call 23; refine (HD.out _).mono ?_; rintro e w2 ⟨rfl, hf⟩; rw [HE.out]; have HF2 := hid (HF.out.trans hf (fun _ _ h => h)); clear hf) | still_step | (with_reducible refine wpStill_nil ?_) | (with_reducible refine Flow.Both.mk ?_ ?_) | (with_reducible exact True.intro) | (with_reducible refine Flow.same_mk rfl rfl rfl ?_; go_simp; done) | (with_reducible exact Flow.same_un rfl rfl rfl) | (refine Flow.region_still mixed ?hB ?_; (case hB => decide +kernel)))
            refine bodyPost_ret (v := .tuple #[.int .i64 acc, .bool true]) (by simp [results, Tryd.results21, go_sem]) rfl ?_
            constructor <;> first | exact HF2.out | simp
          · have hq2 : q = (0, false) := by
              rw [HQ.out]
              apply num_false
              intro n hn h0 hi2
              have := (num_of_eq hn h0 hi2).2.1
              rw [hra] at this
              obtain rfl := Option.some.inj this
              exact hi hi2
            subst hq2
            obtain ⟨z, hz⟩ : ∃ z, z = bytesV (Lib.itoa acc) := ⟨_, rfl⟩
            have hne : z ≠ s := by
              intro e
              rw [hz] at e
              apply hi
              rw [← e]; simp [bytesV]
            have hnb := (Lib.bytes_beq_false_iff z s).2 hne
            have HZ := hid hz
            clear hi hz hne
            go_wp2_with (first | (go_at_call 23; refine (HD.out _).mono ?_; rintro e w2 ⟨rfl, hf⟩; rw [← HZ.out]; have HF2 := hid (HF.out.trans hf (fun _ _ h => h)); clear hf) | still_step | (with_reducible refine wpStill_nil ?_) | (with_reducible refine Flow.Both.mk ?_ ?_) | (with_reducible exact True.intro) | (with_reducible refine Flow.same_mk rfl rfl rfl ?_; go_simp; done) | (with_reducible exact Flow.same_un rfl rfl rfl) | (refine Flow.region_still mixed ?hB ?_; (case hB => decide +kernel)))
            refine bodyPost_ret (v := .tuple #[.int .i64 acc, .bool false]) (by simp [results, Tryd.results21, go_sem]) rfl ?_
            constructor <;> first | exact HF2.out | simp
    · have hq2 : q = (0, false) := by
        rw [HQ.out]
        apply num_false
        intro n hn h0 hi
        have := (num_of_eq hn h0 hi).2.2.2
        have e : s.data.toList.length = s.size := by simp
        omega
      subst hq2
      have hl2 : 19 < s.size := by omega
      go_enter Tryd.func21, Tryd.ntmps21
      go_wp2_with (first | fail | still_step | (with_reducible refine wpStill_nil ?_) | (with_reducible refine Flow.Both.mk ?_ ?_) | (with_reducible exact True.intro) | (with_reducible refine Flow.same_mk rfl rfl rfl ?_; go_simp; done) | (with_reducible exact Flow.same_un rfl rfl rfl) | (refine Flow.region_still mixed ?hB ?_; (case hB => decide +kernel)))
      exact bodyPost_ret (v := .tuple #[.int .i64 0, .bool false]) (by simp [results, Tryd.results21, go_sem]) rfl ⟨⟨0, rfl, fun h => by cases h⟩, by (repeat' (first | with_reducible exact Fr.refl _ _ | with_reducible apply Fr.alloc | with_reducible apply Fr.drew | with_reducible apply Fr.drewN | (with_reducible refine Fr.setCell ?_ ?_ _)))⟩
end Go.Proofs.YtonjhjkhmjfngaaDoor
