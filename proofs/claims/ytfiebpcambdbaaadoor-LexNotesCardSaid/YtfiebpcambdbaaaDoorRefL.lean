/-
  The reference of layer 2: In, Letter, Digit, sign, Key, Line.
-/
import Derived.Test.YtfiebpcambdbaaaDoorLexK
import Derived.Test.YtfiebpcambdbaaaDoorNumR
set_option linter.unusedVariables false
set_option linter.unusedSimpArgs false
set_option maxHeartbeats 4000000
set_option maxRecDepth 8000
namespace Go.Proofs.YtfiebpcambdbaaaDoor
open Go.RowKit Go.Shelf Go.Proofs.YtfiebpcambdbaaaDoor.Lex
attribute [local irreducible] wpStill wpList Calls CallsIn

theorem rletter_is (c : Int) (w : World) : Calls Tryd.prog 20 #[.int .u8 c] w fun e w' => e = .returned (.bool (letterZ c)) ∧ w' = w := by
  obtain ⟨r, hr⟩ : ∃ r, r = letterZ c := ⟨_, rfl⟩
  rw [← hr]
  have h7 : (c < 65) ∨ (65 ≤ c ∧ c ≤ 90) ∨ (90 < c ∧ c < 95) ∨ c = 95 ∨ c = 96 ∨ (97 ≤ c ∧ c ≤ 122) ∨ 122 < c := by omega
  rcases h7 with h | h | h | h | h | h | h
  all_goals
    first
    | (have e : r = false := (by rw [hr]; simp [letterZ]; omega); subst e)
    | (have e : r = true := (by rw [hr]; simp [letterZ]; omega); subst e)
  all_goals
    clear hr
    (try subst h)
    go_enter Tryd.func20, Tryd.ntmps20
    go_wp2_with (first | still_step | (with_reducible first | refine wpStill_nil ?_ | refine Flow.Both.mk ?_ ?_ | exact True.intro) | (with_reducible refine Flow.same_mk rfl rfl rfl ?_; go_simp; done) | (with_reducible exact Flow.same_un rfl rfl rfl) | (refine Flow.region_still mixed ?hB ?_; (case hB => decide +kernel)))
  all_goals
    go_ret
    exact ⟨by simp; try omega, rfl⟩
theorem rdigit_is (c : Int) (w : World) : Calls Tryd.prog 21 #[.int .u8 c] w fun e w' => e = .returned (.bool (digitZ c)) ∧ w' = w := by
  obtain ⟨r, hr⟩ : ∃ r, r = digitZ c := ⟨_, rfl⟩
  rw [← hr]
  have h7 : (c < 48) ∨ (48 ≤ c ∧ c ≤ 57) ∨ 57 < c := by omega
  rcases h7 with h | h | h
  all_goals
    first
    | (have e : r = false := (by rw [hr]; simp [digitZ]; omega); subst e)
    | (have e : r = true := (by rw [hr]; simp [digitZ]; omega); subst e)
  all_goals
    clear hr
    go_enter Tryd.func21, Tryd.ntmps21
    go_wp2_with (first | still_step | (with_reducible first | refine wpStill_nil ?_ | refine Flow.Both.mk ?_ ?_ | exact True.intro) | (with_reducible refine Flow.same_mk rfl rfl rfl ?_; go_simp; done) | (with_reducible exact Flow.same_un rfl rfl rfl) | (refine Flow.region_still mixed ?hB ?_; (case hB => decide +kernel)))
  all_goals
    go_ret
    exact ⟨by simp; try omega, rfl⟩

/-- The byte at a place, as walks read it. -/
theorem mk_at (l : B) (k : Nat) (h : k < l.length) (h2 : k < (⟨l.toArray⟩ : ByteArray).size) : (⟨l.toArray⟩ : ByteArray)[k]'h2 = l[k] := rfl

theorem rin_is (l : B) (c : UInt8) (w : World) (hs : l.length ≤ 1000000) : Calls Tryd.prog 17 #[.string ⟨l.toArray⟩, .int .u8 c.toNat] w fun e w' => e = .returned (.bool (l.contains c)) ∧ Fr (fun _ => False) w w' := by
  obtain ⟨sv, hsv⟩ : ∃ sv : ByteArray, sv = ⟨l.toArray⟩ := ⟨_, rfl⟩
  rw [← hsv]
  have hsz : sv.size = l.length := by rw [hsv]; exact mk_size l
  have hat : ∀ k (h : k < l.length), ∀ h2, ((sv[k]'h2).toNat : Int) = ((l[k]).toNat : Int) := fun k h h2 => by subst hsv; rfl
  have HAT := hid hat
  have HL := hid hs
  clear hsv hat
  obtain ⟨N, hN⟩ : ∃ N, N = l.length := ⟨_, rfl⟩
  rw [← hN] at hsz
  have HN := hid hN
  have hN2 : N ≤ 1000000 := by omega
  obtain ⟨R, hR⟩ : ∃ R, R = l.contains c := ⟨_, rfl⟩
  rw [← hR]
  have HR := hid hR
  obtain ⟨cn, hcn⟩ : ∃ cn : Int, cn = (c.toNat : Int) := ⟨_, rfl⟩
  rw [← hcn]
  have HCN := hid hcn
  clear hN hs hR hcn
  go_enter Tryd.func17, Tryd.ntmps17
  go_wp2_with (first | still_step | (with_reducible first | refine wpStill_nil ?_ | refine Flow.Both.mk ?_ ?_ | exact True.intro) | (with_reducible refine Flow.same_mk rfl rfl rfl ?_; go_simp; done) | (with_reducible exact Flow.same_un rfl rfl rfl) | (refine Flow.region_still mixed ?hB ?_; (case hB => decide +kernel)))
  go_loopw [5] (fun v wr => ∃ k : Nat, k ≤ N ∧ v = .int .i64 (k : Int) ∧ (∀ j (h : j < k) (h2 : j < l.length), l[j] ≠ c) ∧ Fr (fun _ => False) w wr) (fun v _ => N - (intOf v).toNat)
  case atStart => exact ⟨0, Nat.zero_le _, rfl, fun j h => by omega, Fr.refl _ _⟩
  case round =>
    obtain ⟨k, hk, rfl, hall, hf⟩ := hrel
    have HA := hid hall
    have HF := hid hf
    clear hall hf
    by_cases hlt : k < N
    · have hlt2 : (k : Int) < N := by omega
      have hkl : k < l.length := by have := HN.out; omega
      have hb := HAT.out k hkl
      by_cases hc : l[k] = c
      · rw [hc] at hb
        have hct : l.contains c = true := by rw [List.contains_iff_mem, ← hc]; exact List.getElem_mem hkl
        have HCT := hid (HR.out.trans hct)
        rw [← HCN.out] at hb
        clear hct hc
        go_wp2_with (first | still_step | (with_reducible first | refine wpStill_nil ?_ | refine Flow.Both.mk ?_ ?_ | exact True.intro) | (with_reducible refine Flow.same_mk rfl rfl rfl ?_; go_simp; done) | (with_reducible exact Flow.same_un rfl rfl rfl) | (refine Flow.region_still mixed ?hB ?_; (case hB => decide +kernel)))
        go_ret
        rw [HCT.out]
        exact ⟨rfl, HF.out⟩
      · have hcn : ((l[k].toNat : Int) == cn) = false := by
          rw [beq_eq_false_iff_ne]
          intro e
          exact hc (UInt8.toNat_inj.1 (by have := HCN.out; omega))
        have HC := hid hc
        clear hc
        generalize (l[k].toNat : Int) = bn at *
        go_wp2_with (first | still_step | (with_reducible first | refine wpStill_nil ?_ | refine Flow.Both.mk ?_ ?_ | exact True.intro) | (with_reducible refine Flow.same_mk rfl rfl rfl ?_; go_simp; done) | (with_reducible exact Flow.same_un rfl rfl rfl) | (refine Flow.region_still mixed ?hB ?_; (case hB => decide +kernel)))
        go_roundw
        case rel =>
          refine ⟨k + 1, by omega, rfl, fun j h h2 => ?_, HF.out⟩
          by_cases hj : j = k
          · subst hj; exact HC.out
          · exact HA.out j (by omega) h2
        case measure => simp [intOf]; omega
    · have hct : l.contains c = false := by
        cases e : l.contains c with
        | false => rfl
        | true =>
          rw [List.contains_iff_mem] at e
          obtain ⟨j, hj, hje⟩ := List.mem_iff_getElem.1 e
          exact absurd hje (HA.out j (by have := HN.out; omega) hj)
      have HCT := hid (HR.out.trans hct)
      obtain rfl : k = N := by omega
      clear hct
      go_wp2_with (first | still_step | (with_reducible first | refine wpStill_nil ?_ | refine Flow.Both.mk ?_ ?_ | exact True.intro) | (with_reducible refine Flow.same_mk rfl rfl rfl ?_; go_simp; done) | (with_reducible exact Flow.same_un rfl rfl rfl) | (refine Flow.region_still mixed ?hB ?_; (case hB => decide +kernel)))
      go_ret
      rw [HCT.out]
      exact ⟨rfl, HF.out⟩

/-- A row of strings that a literal makes. -/
theorem strs_cell (w : World) (ps : List B) (T : TypeId) {w1 : World} (hf : Fr (fun _ => False) (w.alloc (.cells (ps.map fun p => Value.string ⟨p.toArray⟩).toArray T)) w1) (k : Nat) (h : k < ps.length) :
    w1.cell? ⟨w.heap.size, k, none⟩ = some (.string ⟨(ps[k]).toArray⟩) := by
  have hb := (Blk.new w (ps.map fun p => Value.string ⟨p.toArray⟩).toArray T).fr hf (fun h => h)
  rw [hb.cell]
  simp [h]
theorem streq (x y : B) : ((⟨x.toArray⟩ : ByteArray).toList == (⟨y.toArray⟩ : ByteArray).toList) = decide (x = y) := by
  rw [Lib.toList_data, Lib.toList_data]
  by_cases h : x = y
  · subst h; simp
  · simp [h]

theorem rkey_is (s : B) (w : World) : Calls Tryd.prog 16 #[.string ⟨s.toArray⟩] w fun e w' => e = .returned (.bool (keyB s)) ∧ Fr (fun _ => False) w w' := by
  obtain ⟨sv, hsv⟩ : ∃ sv : ByteArray, sv = ⟨s.toArray⟩ := ⟨_, rfl⟩
  rw [← hsv]
  have HSV := hid hsv
  obtain ⟨R, hR⟩ : ∃ R, R = keyB s := ⟨_, rfl⟩
  rw [← hR]
  have HR := hid hR
  clear hR hsv
  go_enter Tryd.func16, Tryd.ntmps16
  go_wp2_with (first | still_step | (with_reducible first | refine wpStill_nil ?_ | refine Flow.Both.mk ?_ ?_ | exact True.intro) | (with_reducible refine Flow.same_mk rfl rfl rfl ?_; go_simp; done) | (with_reducible exact Flow.same_un rfl rfl rfl) | (refine Flow.region_still mixed ?hB ?_; (case hB => decide +kernel)))
  go_loopw [4] (fun v wr => ∃ k : Nat, k ≤ 16 ∧ v = .int .i64 (k : Int) ∧ (∀ j (h : j < k) (h2 : j < keysB.length), keysB[j] ≠ s) ∧ Fr (fun _ => False) (w.alloc (.cells (keysB.map fun p => Value.string ⟨p.toArray⟩).toArray 9)) wr) (fun v _ => 16 - (intOf v).toNat)
  case atStart => exact ⟨0, Nat.zero_le _, rfl, fun j h => by omega, Fr.refl _ _⟩
  case round =>
    obtain ⟨k, hk, rfl, hall, hf⟩ := hrel
    have HA := hid hall
    have HF := hid hf
    clear hall
    have hl16 : keysB.length = 16 := rfl
    by_cases hlt : k < 16
    · have hlt2 : (k : Int) < 16 := by omega
      have hkl : k < keysB.length := by omega
      have hb := strs_cell w keysB 9 hf k hkl
      have hwl := World.block_lt_of_cell? _ _ hb
      have hq := streq (keysB[k]) s
      rw [← HSV.out] at hq
      clear hf
      by_cases hc : keysB[k] = s
      · rw [decide_eq_true hc] at hq
        have hct : keyB s = true := by unfold keyB; rw [List.contains_iff_mem, ← hc]; exact List.getElem_mem hkl
        have HCT := hid (HR.out.trans hct)
        clear hct hc
        generalize (⟨(keysB[k]).toArray⟩ : ByteArray) = KV at *
        go_wp2_with (first | still_step | (with_reducible first | refine wpStill_nil ?_ | refine Flow.Both.mk ?_ ?_ | exact True.intro) | (with_reducible refine Flow.same_mk rfl rfl rfl ?_; go_simp; done) | (with_reducible exact Flow.same_un rfl rfl rfl) | (refine Flow.region_still mixed ?hB ?_; (case hB => decide +kernel)))
        go_ret
        rw [HCT.out]
        exact ⟨rfl, (show Fr (fun _ => False) w _ by (with_reducible repeat' (first | exact Fr.refl _ _ | apply Fr.alloc | apply Fr.drew | apply Fr.drewN | refine Fr.setCell ?_ ?_ _))).trans HF.out (fun _ _ h => h)⟩
      · rw [decide_eq_false hc] at hq
        have HC := hid hc
        clear hc
        generalize (⟨(keysB[k]).toArray⟩ : ByteArray) = KV at *
        go_wp2_with (first | still_step | (with_reducible first | refine wpStill_nil ?_ | refine Flow.Both.mk ?_ ?_ | exact True.intro) | (with_reducible refine Flow.same_mk rfl rfl rfl ?_; go_simp; done) | (with_reducible exact Flow.same_un rfl rfl rfl) | (refine Flow.region_still mixed ?hB ?_; (case hB => decide +kernel)))
        go_roundw
        case rel =>
          refine ⟨k + 1, by omega, rfl, fun j h h2 => ?_, HF.out⟩
          by_cases hj : j = k
          · subst hj; exact HC.out
          · exact HA.out j (by omega) h2
        case measure => simp [intOf]; omega
    · have hct : keyB s = false := by
        cases e : keyB s with
        | false => rfl
        | true =>
          unfold keyB at e
          rw [List.contains_iff_mem] at e
          obtain ⟨j, hj, hje⟩ := List.mem_iff_getElem.1 e
          exact absurd hje (HA.out j (by omega) hj)
      have HCT := hid (HR.out.trans hct)
      obtain rfl : k = 16 := by omega
      clear hct hf
      go_wp2_with (first | still_step | (with_reducible first | refine wpStill_nil ?_ | refine Flow.Both.mk ?_ ?_ | exact True.intro) | (with_reducible refine Flow.same_mk rfl rfl rfl ?_; go_simp; done) | (with_reducible exact Flow.same_un rfl rfl rfl) | (refine Flow.region_still mixed ?hB ?_; (case hB => decide +kernel)))
      go_ret
      rw [HCT.out]
      exact ⟨rfl, (show Fr (fun _ => False) w _ by (with_reducible repeat' (first | exact Fr.refl _ _ | apply Fr.alloc | apply Fr.drew | apply Fr.drewN | refine Fr.setCell ?_ ?_ _))).trans HF.out (fun _ _ h => h)⟩
end Go.Proofs.YtfiebpcambdbaaaDoor
