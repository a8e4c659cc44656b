/-
  The reference of layer 2: Line, sign.
-/
import Derived.Test.YtfiebpcambdbaaaDoorRefL
set_option linter.unusedVariables false
set_option linter.unusedSimpArgs false
set_option maxHeartbeats 4000000
set_option maxRecDepth 8000
namespace Go.Proofs.YtfiebpcambdbaaaDoor
open Go.RowKit Go.Shelf Go.Proofs.YtfiebpcambdbaaaDoor.Lex
attribute [local irreducible] wpStill wpList Calls CallsIn

theorem lineP_le (u : B) : 1 ≤ lineP u ∧ lineP u ≤ u.length + 1 := by
  have : u.count 10 ≤ u.length := List.count_le_length
  unfold lineP; omega
theorem colP_le (u : B) : 1 ≤ colP u ∧ colP u ≤ u.length + 1 := by
  have hb : ∀ j, -1 ≤ backI u j ∧ backI u j < j := fun j => by
    induction j with
    | zero => simp [backI]
    | succ j ih => unfold backI; split <;> omega
  have := hb u.length
  unfold colP; omega

theorem rline_is (l : B) (K : Nat) (w : World) (hs : l.length ≤ 1000000) :
    Calls Tryd.prog 14 #[.string ⟨l.toArray⟩, .int .i64 (K : Int)] w fun e w' => e = .returned (.tuple #[.int .i64 (lineP (l.take K)), .int .i64 (colP (l.take K))]) ∧ w' = w := by
  obtain ⟨sv, hsv⟩ : ∃ sv : ByteArray, sv = ⟨l.toArray⟩ := ⟨_, rfl⟩
  rw [← hsv]
  have hsz : sv.size = l.length := by rw [hsv]; exact mk_size l
  have hat : ∀ k (h : k < l.length), ∀ h2, ((sv[k]'h2).toNat : Int) = ((l[k]).toNat : Int) := fun k h h2 => by subst hsv; rfl
  have HAT := hid hat
  obtain ⟨N, hN⟩ : ∃ N, N = l.length := ⟨_, rfl⟩
  rw [← hN] at hsz
  have HN := hid hN
  have hN2 : N ≤ 1000000 := by omega
  obtain ⟨R1, hR1⟩ : ∃ R, R = lineP (l.take K) := ⟨_, rfl⟩
  obtain ⟨R2, hR2⟩ : ∃ R, R = colP (l.take K) := ⟨_, rfl⟩
  rw [← hR1, ← hR2]
  have HR := hid (⟨hR1, hR2⟩ : _ ∧ _)
  clear hN hs hsv hat hR1 hR2
  go_enter Tryd.func14, Tryd.ntmps14
  go_wp2_with (first | still_step | (with_reducible first | refine wpStill_nil ?_ | refine Flow.Both.mk ?_ ?_ | exact True.intro) | (with_reducible refine Flow.same_mk rfl rfl rfl ?_; go_simp; done) | (with_reducible exact Flow.same_un rfl rfl rfl) | (refine Flow.region_still mixed ?hB ?_; (case hB => decide +kernel)))
  go_loopw [6, 7, 8] (fun v6 v7 v8 wr => ∃ k : Nat, k ≤ N ∧ k ≤ K ∧ v8 = .int .i64 (k : Int) ∧ v6 = .int .i64 (lineP (l.take k)) ∧ v7 = .int .i64 (colP (l.take k)) ∧ wr = w) (fun _ _ v _ => N - (intOf v).toNat)
  case atStart => exact ⟨0, Nat.zero_le _, Nat.zero_le _, rfl, rfl, rfl, rfl⟩
  case round =>
    obtain ⟨k, hk, hkK, rfl, rfl, rfl, rfl⟩ := hrel
    obtain ⟨g1, g2⟩ := lineP_le (l.take k)
    obtain ⟨g3, g4⟩ := colP_le (l.take k)
    have hlk : (l.take k).length ≤ 1000000 := by rw [List.length_take]; omega
    by_cases hlt : k < N ∧ k < K
    · obtain ⟨hlt, hltK⟩ := hlt
      have hlt2 : (k : Int) < N := by omega
      have hlt3 : (k : Int) < K := by omega
      have hkl : k < l.length := by have := HN.out; omega
      have hb := HAT.out k hkl
      have e1 := line_snoc (l.take k) l[k]
      have e2 := col_snoc (l.take k) l[k]
      rw [← take_snoc l hkl] at e1 e2
      by_cases hc : l[k] = 10
      · rw [hc] at hb
        rw [if_pos hc] at e1 e2
        have hb2 : ∀ h2, ((sv[k]'h2).toNat : Int) = 10 := hb
        have HE := hid (⟨e1, e2⟩ : _ ∧ _)
        clear hb e1 e2 hc
        generalize lineP (l.take k) = LP at *
        generalize colP (l.take k) = CP at *
        generalize (l.take k).length = UL at *
        go_wp2_with (first | still_step | (with_reducible first | refine wpStill_nil ?_ | refine Flow.Both.mk ?_ ?_ | exact True.intro) | (with_reducible refine Flow.same_mk rfl rfl rfl ?_; go_simp; done) | (with_reducible exact Flow.same_un rfl rfl rfl) | (refine Flow.region_still mixed ?hB ?_; (case hB => decide +kernel)))
        go_roundw
        case rel => exact ⟨k + 1, by omega, by omega, rfl, by rw [HE.out.1], by rw [HE.out.2], by trivial⟩
        case measure => simp [intOf]; omega
      · have hcn : ((l[k].toNat : Int) == 10) = false := by
          rw [beq_eq_false_iff_ne]
          intro e
          exact hc (UInt8.toNat_inj.1 (show (l[k]).toNat = (10 : UInt8).toNat by have : (10 : UInt8).toNat = 10 := rfl; omega))
        rw [if_neg hc] at e1 e2
        have HE := hid (⟨e1, e2⟩ : _ ∧ _)
        clear e1 e2 hc
        generalize (l[k].toNat : Int) = bn at *
        generalize lineP (l.take k) = LP at *
        generalize colP (l.take k) = CP at *
        generalize (l.take k).length = UL at *
        go_wp2_with (first | still_step | (with_reducible first | refine wpStill_nil ?_ | refine Flow.Both.mk ?_ ?_ | exact True.intro) | (with_reducible refine Flow.same_mk rfl rfl rfl ?_; go_simp; done) | (with_reducible exact Flow.same_un rfl rfl rfl) | (refine Flow.region_still mixed ?hB ?_; (case hB => decide +kernel)))
        go_roundw
        case rel => exact ⟨k + 1, by omega, by omega, rfl, by rw [HE.out.1], by rw [HE.out.2], by trivial⟩
        case measure => simp [intOf]; omega
    · have hkk : l.take k = l.take K := by
        rcases (by omega : k = K ∨ (k = N ∧ N ≤ K)) with rfl | ⟨rfl, h⟩
        · rfl
        · rw [HN.out, List.take_length, List.take_of_length_le (by have := HN.out; omega)]
      rw [hkk, ← HR.out.1, ← HR.out.2]
      clear hkk g1 g2 g3 g4 hlk
      by_cases h1 : k < N
      · obtain rfl : k = K := by omega
        have h1' : (k : Int) < N := by omega
        go_wp2_with (first | still_step | (with_reducible first | refine wpStill_nil ?_ | refine Flow.Both.mk ?_ ?_ | exact True.intro) | (with_reducible refine Flow.same_mk rfl rfl rfl ?_; go_simp; done) | (with_reducible exact Flow.same_un rfl rfl rfl) | (refine Flow.region_still mixed ?hB ?_; (case hB => decide +kernel)))
        go_ret2
        exact ⟨rfl, rfl⟩
      · obtain rfl : k = N := by omega
        go_wp2_with (first | still_step | (with_reducible first | refine wpStill_nil ?_ | refine Flow.Both.mk ?_ ?_ | exact True.intro) | (with_reducible refine Flow.same_mk rfl rfl rfl ?_; go_simp; done) | (with_reducible exact Flow.same_un rfl rfl rfl) | (refine Flow.region_still mixed ?hB ?_; (case hB => decide +kernel)))
        go_ret2
        exact ⟨rfl, rfl⟩

theorem rsign_is (l : B) (w : World) (hs : l.length ≤ 1000000) (hne : l ≠ []) :
    Calls Tryd.prog 23 #[.string ⟨l.toArray⟩] w fun e w' => e = .returned (.string ⟨(sgB l).toArray⟩) ∧ Fr (fun _ => False) w w' := by
  obtain ⟨sv, hsv⟩ : ∃ sv : ByteArray, sv = ⟨l.toArray⟩ := ⟨_, rfl⟩
  have hsz : sv.size = l.length := by rw [hsv]; exact mk_size l
  have hpos : 0 < l.length := List.length_pos_iff.2 hne
  have h0 : ∀ h, ((sv[0]'h).toNat : Int) = ((l.headD 0).toNat : Int) := fun h => by subst hsv; match l, hpos with | a :: r, _ => rfl
  have h1 : sv.extract 0 1 = ⟨(l.take 1).toArray⟩ := by rw [hsv, mk_take]
  have h2 : sv.extract 0 2 = ⟨(l.take 2).toArray⟩ := by rw [hsv, mk_take]
  rw [← hsv]
  have HIN := hid (fun w => rin_is signsB (l.headD 0) w (by decide))
  obtain ⟨N, hN⟩ : ∃ N, N = l.length := ⟨_, rfl⟩
  rw [← hN] at hsz
  have HN := hid hN
  have hN2 : N ≤ 1000000 := by omega
  have hN1 : 0 < N := by omega
  obtain ⟨R, hR⟩ : ∃ R : ByteArray, R = ⟨(sgB l).toArray⟩ := ⟨_, rfl⟩
  rw [← hR]
  have HR := hid hR
  obtain ⟨P2, hP2⟩ : ∃ P : ByteArray, P = ⟨(l.take 2).toArray⟩ := ⟨_, rfl⟩
  rw [← hP2] at h2
  have HP2 := hid hP2
  obtain ⟨P1, hP1⟩ : ∃ P : ByteArray, P = ⟨(l.take 1).toArray⟩ := ⟨_, rfl⟩
  rw [← hP1] at h1
  have HP1 := hid hP1
  have HC := hid (show ∃ c, c = l.headD 0 from ⟨_, rfl⟩)
  generalize hcc : l.headD 0 = c at *
  have HCC := hid hcc
  clear hsv hN hR hP2 hP1 hs hne hpos HC hcc
  go_enter Tryd.func23, Tryd.ntmps23
  go_wp2_with (first | still_step | (with_reducible first | refine wpStill_nil ?_ | refine Flow.Both.mk ?_ ?_ | exact True.intro) | (with_reducible refine Flow.same_mk rfl rfl rfl ?_; go_simp; done) | (with_reducible exact Flow.same_un rfl rfl rfl) | (refine Flow.region_still mixed ?hB ?_; (case hB => decide +kernel)))
  go_loopw [4] (fun v wr => ∃ k : Nat, k ≤ 8 ∧ v = .int .i64 (k : Int) ∧ (∀ j (h : j < k) (h2 : j < pairsB.length), pairsB[j] ≠ l.take 2) ∧ Fr (fun _ => False) (w.alloc (.cells (pairsB.map fun p => Value.string ⟨p.toArray⟩).toArray 9)) wr) (fun v _ => 8 - (intOf v).toNat)
  case atStart => exact ⟨0, Nat.zero_le _, rfl, fun j h => by omega, Fr.refl _ _⟩
  case round =>
    obtain ⟨k, hk, rfl, hall, hf⟩ := hrel
    have HA := hid hall
    have HF := hid hf
    clear hall
    have hl8 : pairsB.length = 8 := rfl
    by_cases hlt : k < 8
    · have hlt2 : (k : Int) < 8 := by omega
      have hkl : k < pairsB.length := by omega
      have hb := strs_cell w pairsB 9 hf k hkl
      have hwl := World.block_lt_of_cell? _ _ hb
      have hq := streq (l.take 2) (pairsB[k])
      rw [← HP2.out] at hq
      clear hf
      by_cases hc : pairsB[k] = l.take 2
      · rw [decide_eq_true hc.symm] at hq
        have h2N : 2 ≤ N := by
          obtain ⟨x, y, e, _⟩ := pair_is (p := pairsB[k]) (by rw [List.contains_iff_mem]; exact List.getElem_mem hkl)
          have h3 := congrArg List.length (hc.symm.trans e)
          simp at h3
          have := HN.out
          omega
        have h2N2 : (1 : Int) < N := by omega
        have h2N3 : (2 : Int) ≤ N := by omega
        have hct : sgB l = l.take 2 := by unfold sgB; rw [if_pos]; rw [List.contains_iff_mem, ← hc]; exact List.getElem_mem hkl
        have HCT := hid (show (⟨(pairsB[k]).toArray⟩ : ByteArray) = R by rw [HR.out, hct, hc])
        clear hct hc
        generalize (⟨(pairsB[k]).toArray⟩ : ByteArray) = KV at *
        go_wp2_with (first | still_step | (with_reducible first | refine wpStill_nil ?_ | refine Flow.Both.mk ?_ ?_ | exact True.intro) | (with_reducible refine Flow.same_mk rfl rfl rfl ?_; go_simp; done) | (with_reducible exact Flow.same_un rfl rfl rfl) | (refine Flow.region_still mixed ?hB ?_; (case hB => decide +kernel)))
        go_ret
        rw [HCT.out]
        exact ⟨rfl, ((show Fr (fun _ => False) w _ by (with_reducible repeat' (first | exact Fr.refl _ _ | apply Fr.alloc | apply Fr.drew | apply Fr.drewN | refine Fr.setCell ?_ ?_ _))).trans HF.out (fun _ _ h => h)).trans (show Fr (fun _ => False) wr _ by (with_reducible repeat' (first | exact Fr.refl _ _ | apply Fr.alloc | apply Fr.drew | apply Fr.drewN | refine Fr.setCell ?_ ?_ _))) (fun _ _ h => h)⟩
      · rw [decide_eq_false (fun e => hc e.symm)] at hq
        have HC := hid hc
        clear hc
        generalize (⟨(pairsB[k]).toArray⟩ : ByteArray) = KV at *
        by_cases h2N : 2 ≤ N
        · have h2N2 : (1 : Int) < N := by omega
          have h2N3 : (2 : Int) ≤ N := by omega
          go_wp2_with (first | still_step | (with_reducible first | refine wpStill_nil ?_ | refine Flow.Both.mk ?_ ?_ | exact True.intro) | (with_reducible refine Flow.same_mk rfl rfl rfl ?_; go_simp; done) | (with_reducible exact Flow.same_un rfl rfl rfl) | (refine Flow.region_still mixed ?hB ?_; (case hB => decide +kernel)))
          go_roundw
          case rel =>
            refine ⟨k + 1, by omega, rfl, fun j h h2 => ?_, by first | exact HF.out | (exact HF.out.drew) | (exact HF.out.trans (show Fr (fun _ => False) wr _ by (with_reducible repeat' (first | exact Fr.refl _ _ | apply Fr.alloc | apply Fr.drew | apply Fr.drewN | refine Fr.setCell ?_ ?_ _))) (fun _ _ h => h))⟩
            by_cases hj : j = k
            · subst hj; exact HC.out
            · exact HA.out j (by omega) h2
          case measure => simp [intOf]; omega
        · obtain rfl : N = 1 := by omega
          go_wp2_with (first | still_step | (with_reducible first | refine wpStill_nil ?_ | refine Flow.Both.mk ?_ ?_ | exact True.intro) | (with_reducible refine Flow.same_mk rfl rfl rfl ?_; go_simp; done) | (with_reducible exact Flow.same_un rfl rfl rfl) | (refine Flow.region_still mixed ?hB ?_; (case hB => decide +kernel)))
          go_roundw
          case rel =>
            refine ⟨k + 1, by omega, rfl, fun j h h2 => ?_, by first | exact HF.out | (exact HF.out.drew) | (exact HF.out.trans (show Fr (fun _ => False) wr _ by (with_reducible repeat' (first | exact Fr.refl _ _ | apply Fr.alloc | apply Fr.drew | apply Fr.drewN | refine Fr.setCell ?_ ?_ _))) (fun _ _ h => h))⟩
            by_cases hj : j = k
            · subst hj; exact HC.out
            · exact HA.out j (by omega) h2
          case measure => simp [intOf]; omega
    · obtain rfl : k = 8 := by omega
      have hnp : pairsB.contains (l.take 2) = false := by
        cases e : pairsB.contains (l.take 2) with
        | false => rfl
        | true =>
          rw [List.contains_iff_mem] at e
          obtain ⟨j, hj, hje⟩ := List.mem_iff_getElem.1 e
          exact absurd hje (HA.out j (by omega) hj)
      have hsg : sgB l = if signsB.contains c then l.take 1 else [] := by unfold sgB; rw [if_neg (by simpa using hnp), HCC.out]
      have hN1' : (1 : Int) ≤ N := by omega
      have hN0' : (0 : Int) < N := by omega
      have HRS := HR.out
      clear hf hnp
      cases hcs : signsB.contains c with
      | true =>
        rw [hcs] at hsg HIN
        have HCT := hid (show P1 = R by rw [HRS, hsg, HP1.out]; rfl)
        clear hsg HRS
        go_wp2_with (first | (go_at_call 17; refine (HIN.out _).mono ?_; rintro e w3 ⟨rfl, hf3⟩; have HF3 := hid hf3; clear hf3) | still_step | (with_reducible first | refine wpStill_nil ?_ | refine Flow.Both.mk ?_ ?_ | exact True.intro) | (with_reducible refine Flow.same_mk rfl rfl rfl ?_; go_simp; done) | (with_reducible exact Flow.same_un rfl rfl rfl) | (refine Flow.region_still mixed ?hB ?_; (case hB => decide +kernel)))
        go_ret
        rw [HCT.out]
        exact ⟨rfl, (((show Fr (fun _ => False) w _ by (with_reducible repeat' (first | exact Fr.refl _ _ | apply Fr.alloc | apply Fr.drew | apply Fr.drewN | refine Fr.setCell ?_ ?_ _))).trans HF.out (fun _ _ h => h)).trans HF3.out (fun _ _ h => h))⟩
      | false =>
        rw [hcs] at hsg HIN
        have HCT := hid (show (⟨#[]⟩ : ByteArray) = R by rw [HRS, hsg]; rfl)
        clear hsg HRS
        go_wp2_with (first | (go_at_call 17; refine (HIN.out _).mono ?_; rintro e w3 ⟨rfl, hf3⟩; have HF3 := hid hf3; clear hf3) | still_step | (with_reducible first | refine wpStill_nil ?_ | refine Flow.Both.mk ?_ ?_ | exact True.intro) | (with_reducible refine Flow.same_mk rfl rfl rfl ?_; go_simp; done) | (with_reducible exact Flow.same_un rfl rfl rfl) | (refine Flow.region_still mixed ?hB ?_; (case hB => decide +kernel)))
        go_ret
        rw [HCT.out]
        exact ⟨rfl, (((show Fr (fun _ => False) w _ by (with_reducible repeat' (first | exact Fr.refl _ _ | apply Fr.alloc | apply Fr.drew | apply Fr.drewN | refine Fr.setCell ?_ ?_ _))).trans HF.out (fun _ _ h => h)).trans HF3.out (fun _ _ h => h))⟩
end Go.Proofs.YtfiebpcambdbaaaDoor
