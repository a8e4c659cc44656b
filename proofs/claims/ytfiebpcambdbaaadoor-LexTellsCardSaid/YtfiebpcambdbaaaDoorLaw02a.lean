/-
  LexLines and LexTells: the laws' walks.
-/
import Derived.Test.YtfiebpcambdbaaaDoorAwake02
import Derived.Test.YtfiebpcambdbaaaDoorRefM
set_option linter.unusedVariables false
set_option linter.unusedSimpArgs false
set_option maxHeartbeats 4000000
set_option maxRecDepth 8000
namespace Go.Proofs.YtfiebpcambdbaaaDoor
open Go.RowKit Go.Shelf Go.Proofs.YtfiebpcambdbaaaDoor.Lex
attribute [local irreducible] wpStill wpList Calls CallsIn

theorem mk_back (s : ByteArray) : s = ⟨s.data.toList.toArray⟩ := by simp

theorem lines_l (l : B) (w : World) (ht : Tabs w) : Calls Tryd.prog 7 #[.string ⟨l.toArray⟩] w fun e w' => e = .returned (.bool true) ∧ Fr (fun _ => False) w w' := by
  have HT := hid ht
  clear ht
  have HAW := hid (fun w ht => awake_true w ht)
  obtain ⟨sv, hsv⟩ : ∃ sv : ByteArray, sv = ⟨l.toArray⟩ := ⟨_, rfl⟩
  have hsz : sv.size = l.length := by rw [hsv]; exact mk_size l
  have hat : ∀ k (h : k < l.length), ∀ h2, ((sv[k]'h2).toNat : Int) = ((l[k]).toNat : Int) := fun k h h2 => by subst hsv; rfl
  have HAT := hid hat
  by_cases hbig : 1000 < l.length
  · rw [← hsv]
    have hb2 : (1000 : Int) < l.length := by omega
    clear hsv hat HAT hbig
    generalize l.length = N at *
    go_enter Tryd.func7, Tryd.ntmps7
    go_wp2_with (first | (go_at_call 8; refine (HAW.out _ HT.out).mono ?_; rintro e w1 ⟨rfl, hf⟩; have HF1 := hid hf; clear hf) | still_step | (with_reducible first | refine wpStill_nil ?_ | refine Flow.Both.mk ?_ ?_ | exact True.intro) | (with_reducible refine Flow.same_mk rfl rfl rfl ?_; go_simp; done) | (with_reducible exact Flow.same_un rfl rfl rfl) | (refine Flow.region_still mixed ?hB ?_; (case hB => decide +kernel)))
    go_ret
    exact ⟨by simp, HF1.out⟩
  · have HLN := hid (fun k w => line_is l k w (by omega))
    rw [← hsv] at HLN ⊢
    have hb2 : (l.length : Int) ≤ 1000 := by omega
    have hb3 : l.length ≤ 1000 := by omega
    have HL0 := HLN.out 0
    rw [show lineP (l.take 0) = 1 from rfl, show colP (l.take 0) = 1 from rfl] at HL0
    have HL0 := hid HL0
    have hLE := HLN.out (l.length + 5)
    rw [List.take_of_length_le (by omega)] at hLE
    have HLE := hid hLE
    clear hsv hat hbig hLE
    obtain ⟨N, hN⟩ : ∃ N, N = l.length := ⟨_, rfl⟩
    rw [← hN] at hsz hb2 hb3 HLE
    have HN := hid hN
    clear hN
    go_enter Tryd.func7, Tryd.ntmps7
    go_wp2_with (first | (go_at_call 8; refine (HAW.out _ HT.out).mono ?_; rintro e w1 ⟨rfl, hf⟩; have HF1 := hid hf; clear hf) | (go_at_call 13; refine (HL0.out _).mono ?_; rintro e w2 ⟨rfl, hf⟩; have HF2 := hid (HF1.out.trans hf (fun _ _ h => h)); clear hf) | still_step | (with_reducible first | refine wpStill_nil ?_ | refine Flow.Both.mk ?_ ?_ | exact True.intro) | (with_reducible refine Flow.same_mk rfl rfl rfl ?_; go_simp; done) | (with_reducible exact Flow.same_un rfl rfl rfl) | (refine Flow.region_still mixed ?hB ?_; (case hB => decide +kernel)))
    go_loopw [4, 5, 6] (fun v4 v5 v6 wr => ∃ k : Nat, k ≤ N ∧ v4 = .int .i64 (lineP (l.take k)) ∧ v5 = .int .i64 (colP (l.take k)) ∧ v6 = .int .i64 (k : Int) ∧ Fr (fun _ => False) w wr) (fun _ _ v _ => N - (intOf v).toNat)
    case atStart => exact ⟨0, Nat.zero_le _, rfl, rfl, rfl, HF2.out⟩
    case round =>
      obtain ⟨k, hk, rfl, rfl, rfl, hf⟩ := hrel
      have HF := hid hf
      obtain ⟨g1, g2⟩ := lineP_le (l.take k)
      obtain ⟨g3, g4⟩ := colP_le (l.take k)
      have hlk : (l.take k).length ≤ 1000 := by rw [List.length_take]; have := HN.out; omega
      have g2' : lineP (l.take k) ≤ 1001 := by omega
      have g4' : colP (l.take k) ≤ 1001 := by omega
      clear hf g2 g4 hlk
      by_cases hlt : k < N
      · have hlt2 : (k : Int) < N := by omega
        have hkl : k < l.length := by have := HN.out; omega
        have hb := HAT.out k hkl
        have e1 := line_snoc (l.take k) l[k]
        have e2 := col_snoc (l.take k) l[k]
        rw [← take_snoc l hkl] at e1 e2
        have HLK := hid (HLN.out (k + 1))
        by_cases hc : l[k] = 10
        · rw [hc] at hb
          rw [if_pos hc] at e1 e2
          have hb2 : ∀ h2, ((sv[k]'h2).toNat : Int) = 10 := hb
          rw [e1, e2] at HLK
          have HE := hid (⟨e1, e2⟩ : _ ∧ _)
          clear hb e1 e2 hc
          generalize lineP (l.take k) = LP at *
          generalize colP (l.take k) = CP at *
          go_wp2_with (first | (go_at_call 13; refine (HLK.out _).mono ?_; rintro e w3 ⟨rfl, hf⟩; have HF3 := hid (HF.out.trans hf (fun _ _ h => h)); clear hf) | still_step | (with_reducible first | refine wpStill_nil ?_ | refine Flow.Both.mk ?_ ?_ | exact True.intro) | (with_reducible refine Flow.same_mk rfl rfl rfl ?_; go_simp; done) | (with_reducible exact Flow.same_un rfl rfl rfl) | (refine Flow.region_still mixed ?hB ?_; (case hB => decide +kernel)))
          go_roundw
          case rel => exact ⟨k + 1, by omega, by rw [HE.out.1], by rw [HE.out.2], rfl, HF3.out⟩
          case measure => simp [intOf]; omega
        · have hcn : ((l[k].toNat : Int) == 10) = false := by
            rw [beq_eq_false_iff_ne]
            intro e
            exact hc (UInt8.toNat_inj.1 (show (l[k]).toNat = (10 : UInt8).toNat by have : (10 : UInt8).toNat = 10 := rfl; omega))
          have hcm : ((l[k].toNat : Int) != 10) = true := by simpa using hcn
          rw [if_neg hc] at e1 e2
          rw [e1, e2] at HLK
          have HE := hid (⟨e1, e2⟩ : _ ∧ _)
          clear e1 e2 hc
          generalize (l[k].toNat : Int) = bn at *
          generalize lineP (l.take k) = LP at *
          generalize colP (l.take k) = CP at *
          go_wp2_with (first | (go_at_call 13; refine (HLK.out _).mono ?_; rintro e w3 ⟨rfl, hf⟩; have HF3 := hid (HF.out.trans hf (fun _ _ h => h)); clear hf) | still_step | (with_reducible first | refine wpStill_nil ?_ | refine Flow.Both.mk ?_ ?_ | exact True.intro) | (with_reducible refine Flow.same_mk rfl rfl rfl ?_; go_simp; done) | (with_reducible exact Flow.same_un rfl rfl rfl) | (refine Flow.region_still mixed ?hB ?_; (case hB => decide +kernel)))
          go_roundw
          case rel => exact ⟨k + 1, by omega, by rw [HE.out.1], by rw [HE.out.2], rfl, HF3.out⟩
          case measure => simp [intOf]; omega
      · obtain rfl : N = k := by omega
        have hle := HLE.out
        rw [show l.take N = l by rw [HN.out, List.take_length]] at *
        have HLE2 := hid hle
        clear hle hlt
        generalize lineP l = LP at *
        generalize colP l = CP at *
        go_wp2_with (first | (go_at_call 13; refine (HLE2.out _).mono ?_; rintro e w3 ⟨rfl, hf⟩; have HF3 := hid (HF.out.trans hf (fun _ _ h => h)); clear hf) | still_step | (with_reducible first | refine wpStill_nil ?_ | refine Flow.Both.mk ?_ ?_ | exact True.intro) | (with_reducible refine Flow.same_mk rfl rfl rfl ?_; go_simp; done) | (with_reducible exact Flow.same_un rfl rfl rfl) | (refine Flow.region_still mixed ?hB ?_; (case hB => decide +kernel)))
        go_ret
        exact ⟨by simp, HF3.out⟩

theorem tells_l (l : B) (n : Int) (hn : inI n) (w : World) (ht : Tabs w) : Calls Tryd.prog 4 #[.string ⟨l.toArray⟩, .int .i64 n] w fun e w' => e = .returned (.bool true) ∧ Fr (fun _ => False) w w' := by
  have HT := hid ht
  clear ht
  have HAW := hid (fun w ht => awake_true w ht)
  obtain ⟨sv, hsv⟩ : ∃ sv : ByteArray, sv = ⟨l.toArray⟩ := ⟨_, rfl⟩
  have hsz : sv.size = l.length := by rw [hsv]; exact mk_size l
  by_cases hbig : 2000 < l.length
  · rw [← hsv]
    have hb2 : (2000 : Int) < l.length := by omega
    clear hsv hbig
    generalize l.length = N at *
    go_enter Tryd.func4, Tryd.ntmps4
    go_wp2_with (first | (go_at_call 8; refine (HAW.out _ HT.out).mono ?_; rintro e w1 ⟨rfl, hf⟩; have HF1 := hid hf; clear hf) | still_step | (with_reducible first | refine wpStill_nil ?_ | refine Flow.Both.mk ?_ ?_ | exact True.intro) | (with_reducible refine Flow.same_mk rfl rfl rfl ?_; go_simp; done) | (with_reducible exact Flow.same_un rfl rfl rfl) | (refine Flow.region_still mixed ?hB ?_; (case hB => decide +kernel)))
    go_ret
    exact ⟨by simp, HF1.out⟩
  · by_cases hneg : n < 0
    · rw [← hsv]
      have hb2 : (l.length : Int) ≤ 2000 := by omega
      clear hsv hbig
      generalize l.length = N at *
      go_enter Tryd.func4, Tryd.ntmps4
      go_wp2_with (first | (go_at_call 8; refine (HAW.out _ HT.out).mono ?_; rintro e w1 ⟨rfl, hf⟩; have HF1 := hid hf; clear hf) | still_step | (with_reducible first | refine wpStill_nil ?_ | refine Flow.Both.mk ?_ ?_ | exact True.intro) | (with_reducible refine Flow.same_mk rfl rfl rfl ?_; go_simp; done) | (with_reducible exact Flow.same_un rfl rfl rfl) | (refine Flow.region_still mixed ?hB ?_; (case hB => decide +kernel)))
      go_ret
      exact ⟨by simp, HF1.out⟩
    · obtain ⟨k, rfl⟩ : ∃ k : Nat, n = k := ⟨n.toNat, by omega⟩
      have HLN := hid (fun w => line_is l k w (by omega))
      have HRL := hid (fun w => rline_is l k w (by omega))
      have HKY := hid (fun w => key_is l w)
      have HRK := hid (fun w => rkey_is l w)
      rw [← hsv] at HLN HRL HKY HRK ⊢
      have hb2 : (l.length : Int) ≤ 2000 := by omega
      have hk0 : (0 : Int) ≤ k := by omega
      clear hsv hbig hneg hn
      generalize lineP (l.take k) = LP at *
      generalize colP (l.take k) = CP at *
      generalize keyB l = KB at *
      generalize l.length = N at *
      go_enter Tryd.func4, Tryd.ntmps4
      go_wp2_with (first | (go_at_call 8; refine (HAW.out _ HT.out).mono ?_; rintro e w1 ⟨rfl, hf⟩; have HF1 := hid hf; clear hf) | (go_at_call 13; refine (HLN.out _).mono ?_; rintro e w2 ⟨rfl, hf⟩; have HF2 := hid (HF1.out.trans hf (fun _ _ h => h)); clear hf) | (go_at_call 14; refine (HRL.out _).mono ?_; rintro e w3 ⟨rfl, hf⟩; rw [hf]; clear hf) | (go_at_call 15; refine (HKY.out _).mono ?_; rintro e w4 ⟨rfl, hf⟩; have HF4 := hid (HF2.out.trans hf (fun _ _ h => h)); clear hf) | (go_at_call 16; refine (HRK.out _).mono ?_; rintro e w5 ⟨rfl, hf⟩; have HF5 := hid (HF4.out.trans hf (fun _ _ h => h)); clear hf) | still_step | (with_reducible first | refine wpStill_nil ?_ | refine Flow.Both.mk ?_ ?_ | exact True.intro) | (with_reducible refine Flow.same_mk rfl rfl rfl ?_; go_simp; done) | (with_reducible exact Flow.same_un rfl rfl rfl) | (refine Flow.region_still mixed ?hB ?_; (case hB => decide +kernel)))
      go_ret
      exact ⟨by simp, HF5.out⟩

theorem lines_walk (s : ByteArray) (w : World) (ht : Tabs w) : Calls Tryd.prog 7 #[.string s] w fun e w' => e = .returned (.bool true) ∧ Below w.heap.size w w' := by
  rw [mk_back s]
  exact (lines_l _ w ht).mono fun e w' h => ⟨h.1, h.2.below (Nat.le_refl _) (fun _ _ h => h)⟩
theorem tells_walk (s : ByteArray) (n : Int) (hn : inI n) (w : World) (ht : Tabs w) : Calls Tryd.prog 4 #[.string s, .int .i64 n] w fun e w' => e = .returned (.bool true) ∧ Below w.heap.size w w' := by
  rw [mk_back s]
  exact (tells_l _ n hn w ht).mono fun e w' h => ⟨h.1, h.2.below (Nat.le_refl _) (fun _ _ h => h)⟩
end Go.Proofs.YtfiebpcambdbaaaDoor
