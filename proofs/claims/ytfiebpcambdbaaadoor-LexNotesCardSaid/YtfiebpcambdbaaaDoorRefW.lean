/-
  The reference of layer 2: Words.
-/
import Derived.Test.YtfiebpcambdbaaaDoorRefWp
import Derived.Deep.CutRange
import Derived.Deep.CutBlock
set_option linter.unusedVariables false
set_option linter.unusedSimpArgs false
set_option maxHeartbeats 4000000
set_option maxRecDepth 8000
namespace Go.Proofs.YtfiebpcambdbaaaDoor
open Go.RowKit Go.Shelf Go.Proofs.YtfiebpcambdbaaaDoor.Lex
attribute [local irreducible] wpStill wpList Calls CallsIn

theorem zRW : (Tryd.prog.info? 45).map (fun i => (i.zero, i.size)) = some (some (.agg #[.int .i64 0, .string ⟨#[]⟩, .int .i64 0, .int .i64 0]), 4) := by kernel_rfl
theorem szRW : (Tryd.prog.info? 45).map (·.size) = some 4 := by kernel_rfl
theorem unRW : ∃ d, Tryd.prog.underlying 45 = some d ∧ d.isRow = true := ⟨_, Tryd.underlying45, rfl⟩
theorem infoRW : (Tryd.prog.info? 45).map (fun i => (i.zero, i.size, i.bytes)) = some (some (.agg #[.int .i64 0, .string ⟨#[]⟩, .int .i64 0, .int .i64 0]), 4, 40) := by kernel_rfl

def RefRel (E : TypeId) (s : B) (w : World) (v5 v6 : Value) (wr : World) : Prop :=
  ∃ (L : List Wd) (ao : Option Addr) (cap i : Nat), v5 = .slice ao L.length cap ∧ v6 = .int .i64 (i : Int) ∧ i ≤ s.length ∧ OwnAt wr E 4 (fun z => w.heap.size ≤ z) ao L.length cap (wdsC L) ∧
    wordsR s.length (skipB s) = preL L (wordsR s.length (skipB (s.drop i))) ∧ L.length ≤ i ∧ Fr (fun _ => False) w wr

set_option maxHeartbeats 8000000 in
theorem rwords_is (s : B) (w : World) (hs : s.length ≤ 1000000) :
    Calls Tryd.prog 10 #[.string ⟨s.toArray⟩] w fun e w' => WordsTo 45 w (wordsB s) e w' := by
  obtain ⟨i0, hi0, hz0, hz1, hz2⟩ := info_parts infoRW
  obtain ⟨sv, hsv⟩ : ∃ sv : ByteArray, sv = ⟨s.toArray⟩ := ⟨_, rfl⟩
  rw [← hsv]
  have HSV := hid hsv
  have hsz : sv.size = s.length := by rw [hsv]; exact mk_size s
  have hat : ∀ k (h : k < s.length), ∀ h2, ((sv[k]'h2).toNat : Int) = ((s[k]).toNat : Int) := fun k h h2 => by subst hsv; rfl
  have HAT := hid hat
  obtain ⟨T, hT⟩ : ∃ T, T = s.length := ⟨_, rfl⟩
  rw [← hT] at hsz
  have HTT := hid hT
  clear hat hsv
  by_cases hbig : 16384 < s.length
  · have e : wordsB s = .error (2, 0) := by unfold wordsB; rw [if_pos hbig]
    rw [e]
    have hb2 : (16384 : Int) < T := by omega
    clear hs hbig e hT
    go_enter Tryd.func10, Tryd.ntmps10
    go_wp2_with (first | still_step | (with_reducible first | refine wpStill_nil ?_ | refine Flow.Both.mk ?_ ?_ | exact True.intro) | (with_reducible refine Flow.same_mk rfl rfl rfl ?_; go_simp; done) | (with_reducible exact Flow.same_un rfl rfl rfl) | (refine Flow.region_still mixed ?hB ?_; (case hB => decide +kernel)))
    go_ret3
    exact ⟨rfl, Fr.refl _ _⟩
  · have e : wordsB s = wordsR T (skipB s) := by unfold wordsB; rw [if_neg hbig, hT]
    rw [e]
    have hb2 : (T : Int) ≤ 16384 := by omega
    have HL := hid (show T ≤ 16384 by omega)
    clear hs hbig e hT
    go_enter Tryd.func10, Tryd.ntmps10
    go_wp2_with (first | still_step | (with_reducible first | refine wpStill_nil ?_ | refine Flow.Both.mk ?_ ?_ | exact True.intro) | (with_reducible refine Flow.same_mk rfl rfl rfl ?_; go_simp; done) | (with_reducible exact Flow.same_un rfl rfl rfl) | (refine Flow.region_still mixed ?hB ?_; (case hB => decide +kernel)))
    go_loopw [5, 6] (fun v5 v6 wr => RefRel 45 s w v5 v6 wr) (fun _ v6 _ => T - (intOf v6).toNat)
    case atStart => exact ⟨[], none, 0, 0, rfl, rfl, Nat.zero_le _, OwnAt.nil _ _ _ _ _, by rw [List.drop_zero]; cases wordsR (↑s.length) (skipB s) <;> rfl, by simp, Fr.refl _ _⟩
    case round =>
      obtain ⟨L, ao, cap, i, rfl, rfl, hi, ho, hw, hll, hf⟩ := hrel
      obtain ⟨wq, hwq⟩ : ∃ wq, wq = wr := ⟨_, rfl⟩
      rw [← hwq] at ho hf ⊢
      clear hwq
      clear wr
      rw [← HTT.out] at hw hi
      have HW := hid hw
      have HF := hid hf
      obtain ⟨H0, hH0⟩ : ∃ H0, H0 = wq.heap.size := ⟨_, rfl⟩
      have HO := hid (ho.mono (R2 := fun z => w.heap.size ≤ z ∧ z < H0) (fun z hz h => ⟨h, by omega⟩))
      have s0 := hf.size
      rw [← hH0] at s0
      have HH0 := hid hH0
      have hT16 := HL.out
      obtain ⟨N, hN⟩ : ∃ N, N = L.length := ⟨_, rfl⟩
      rw [← hN] at HO hll ⊢
      have HN := hid hN
      have HI := hid hi
      have HLL := hid hll
      clear hw hf ho hN hH0
      by_cases hlt : i < T
      · have hlt2 : (i : Int) < T := by omega
        have hkl : i < s.length := by have := HTT.out; omega
        obtain ⟨c, hc⟩ : ∃ c, c = s[i] := ⟨_, rfl⟩
        have HC := hid hc
        have hb := HAT.out i hkl
        rw [← hc] at hb
        have HIN := hid (fun w => rin_is [32, 9, 10, 13] c w (by decide))
        have HLT := hid (rletter_is (c.toNat : Int))
        have HDG := hid (rdigit_is (c.toNat : Int))
        rw [letterZ_of] at HLT
        rw [digitZ_of] at HDG
        obtain ⟨cn, hcn⟩ : ∃ cn : Int, cn = (c.toNat : Int) := ⟨_, rfl⟩
        rw [← hcn] at hb HIN HLT HDG
        have HCN := hid hcn
        have hdc := drop_cons hkl
        rw [← hc] at hdc
        have HDC := hid hdc
        clear hc hcn hdc hll hi
        cases hbl : blankB c with
        | true =>
          rw [show ([32, 9, 10, 13] : B).contains c = true from hbl] at HIN
          have HWN := hid (show wordsR T (skipB s) = preL L (wordsR T (skipB (s.drop (i + 1)))) by rw [HW.out, HDC.out, skipB_blank hbl])
          clear hbl
          go_wp2_with (first | (go_at_call 17; refine (HIN.out _).mono ?_; rintro e w1 ⟨rfl, hf⟩; have HF1 := hid (HF.out.trans hf (fun _ _ h => h)); have HO1 := hid (HO.out.fr hf (fun _ _ h => h)); have s1 := hf.size; clear hf) | still_step | (with_reducible first | refine wpStill_nil ?_ | refine Flow.Both.mk ?_ ?_ | exact True.intro) | (with_reducible refine Flow.same_mk rfl rfl rfl ?_; go_simp; done) | (with_reducible exact Flow.same_un rfl rfl rfl) | (refine Flow.region_still mixed ?hB ?_; (case hB => decide +kernel)))
          go_roundw
          case rel =>
            refine ⟨L, ao, cap, i + 1, by rw [← HN.out], rfl, by have := HTT.out; omega, ?_, by rw [← HTT.out]; exact HWN.out, by have := HN.out; have := HLL.out; omega, HF1.out⟩
            rw [← HN.out]
            exact HO1.out.mono (fun z _ h => h.1)
          case measure => simp [intOf]; omega
        | false =>
          rw [show ([32, 9, 10, 13] : B).contains c = false from hbl] at HIN
          cases hno : isNote (s.drop i) with
          | true =>
            obtain ⟨h1, h2, h3⟩ := note_at hno
            have hb47 : ∀ h2, ((sv[i]'h2).toNat : Int) = 47 := fun h => by rw [HAT.out i hkl h, h2]; rfl
            have hb48 : ∀ h2, ((sv[i + 1]'h2).toNat : Int) = 47 := fun h => by rw [HAT.out (i + 1) h1 h, h3]; rfl
            have hcn47 : cn = 47 := by rw [HCN.out, HC.out, h2]; rfl
            have hi1 : (i : Int) + 1 < T := by have := HTT.out; omega
            have HNO := hid hno
            have HNT := hid (show s[i] ≠ 10 by rw [h2]; decide)
            subst hcn47
            clear hbl hno h2 h3 hb HLT HDG HC HCN HDC
            go_wp2_with (first | (go_at_call 17; refine (HIN.out _).mono ?_; rintro e w1 ⟨rfl, hf⟩; have HF1 := hid (HF.out.trans hf (fun _ _ h => h)); have HO1 := hid (HO.out.fr hf (fun _ _ h => h)); have s1 := hf.size; clear hf) | still_step | (with_reducible first | refine wpStill_nil ?_ | refine Flow.Both.mk ?_ ?_ | exact True.intro) | (with_reducible refine Flow.same_mk rfl rfl rfl ?_; go_simp; done) | (with_reducible exact Flow.same_un rfl rfl rfl) | (refine Flow.region_still mixed ?hB ?_; (case hB => decide +kernel)))
            go_loopw [6] (fun v6 wx => ∃ k : Nat, i ≤ k ∧ k ≤ T ∧ v6 = .int .i64 (k : Int) ∧ (∀ j, i ≤ j → j < k → ∀ h : j < s.length, s[j] ≠ 10) ∧ Fr (fun _ => False) w1 wx) (fun v6 _ => T - (intOf v6).toNat)
            case atStart => exact ⟨i, Nat.le_refl _, by omega, rfl, fun j a b => by omega, by (with_reducible repeat' (first | exact Fr.refl _ _ | apply Fr.alloc | apply Fr.drew | apply Fr.drewN | refine Fr.setCell ?_ ?_ _))⟩
            case round =>
              obtain ⟨k, hik, hkT, rfl, hall, hfx⟩ := hrel
              have HA := hid hall
              have HFX := hid hfx
              clear hall hfx
              by_cases hkl2 : k < T
              · have hkl3 : (k : Int) < T := by omega
                have hks : k < s.length := by have := HTT.out; omega
                have hbk := HAT.out k hks
                by_cases hk10 : s[k] = 10
                · have hbk2 : ∀ h2, ((sv[k]'h2).toNat : Int) = 10 := fun h => by rw [HAT.out k hks h, hk10]; rfl
                  have hne : i ≠ k := fun e => by subst e; exact HNT.out hk10
                  have HSK := hid (note_skip hik (by have := HTT.out; omega) HNO.out HA.out (.inr ⟨hks, hk10⟩))
                  clear hk10 hbk
                  go_wp2_with (first | still_step | (with_reducible first | refine wpStill_nil ?_ | refine Flow.Both.mk ?_ ?_ | exact True.intro) | (with_reducible refine Flow.same_mk rfl rfl rfl ?_; go_simp; done) | (with_reducible exact Flow.same_un rfl rfl rfl) | (refine Flow.region_still mixed ?hB ?_; (case hB => decide +kernel)))
                  refine ⟨⟨L, ao, cap, k, by rw [← HN.out], rfl, by have := HTT.out; omega, ?_, ?_, by have := HN.out; have := HLL.out; omega, HF1.out.trans HFX.out (fun _ _ h => h)⟩, by simp [intOf]; omega⟩
                  · rw [← HN.out]
                    exact (HO1.out.fr HFX.out (fun _ _ h => h)).mono (fun z _ h => h.1)
                  · rw [← HTT.out, HW.out, HSK.out]
                · have hbn : ((s[k].toNat : Int) != 10) = true := by
                    simp only [bne_iff_ne, ne_eq]
                    intro e
                    exact hk10 (UInt8.toNat_inj.1 (show (s[k]).toNat = (10 : UInt8).toNat by have : (10 : UInt8).toNat = 10 := rfl; omega))
                  have HK10 := hid hk10
                  clear hk10
                  generalize (s[k].toNat : Int) = bn at *
                  go_wp2_with (first | still_step | (with_reducible first | refine wpStill_nil ?_ | refine Flow.Both.mk ?_ ?_ | exact True.intro) | (with_reducible refine Flow.same_mk rfl rfl rfl ?_; go_simp; done) | (with_reducible exact Flow.same_un rfl rfl rfl) | (refine Flow.region_still mixed ?hB ?_; (case hB => decide +kernel)))
                  go_roundw
                  case rel =>
                    refine ⟨k + 1, by omega, by omega, rfl, fun j a b h => ?_, by first | exact HFX.out | exact HFX.out.trans (show Fr (fun _ => False) wr _ by (with_reducible repeat' (first | exact Fr.refl _ _ | apply Fr.alloc | apply Fr.drew | apply Fr.drewN | refine Fr.setCell ?_ ?_ _))) (fun _ _ h => h)⟩
                    by_cases hj : j = k
                    · subst hj; exact HK10.out
                    · exact HA.out j a (by omega) h
                  case measure => simp [intOf]; omega
              · obtain rfl : k = T := by omega
                have HSK := hid (note_skip hik (by have := HTT.out; omega) HNO.out HA.out (.inl HTT.out))
                go_wp2_with (first | still_step | (with_reducible first | refine wpStill_nil ?_ | refine Flow.Both.mk ?_ ?_ | exact True.intro) | (with_reducible refine Flow.same_mk rfl rfl rfl ?_; go_simp; done) | (with_reducible exact Flow.same_un rfl rfl rfl) | (refine Flow.region_still mixed ?hB ?_; (case hB => decide +kernel)))
                refine ⟨⟨L, ao, cap, k, by rw [← HN.out], rfl, by have := HTT.out; omega, ?_, ?_, by have := HN.out; have := HLL.out; omega, HF1.out.trans HFX.out (fun _ _ h => h)⟩, by simp [intOf]; omega⟩
                · rw [← HN.out]
                  exact (HO1.out.fr HFX.out (fun _ _ h => h)).mono (fun z _ h => h.1)
                · rw [← HTT.out, HW.out, HSK.out]
          | false =>
            have HBL := hid (show blankB s[i] = false by rw [← HC.out]; exact hbl)
            have hsk := self_skip hkl HBL.out hno
            obtain ⟨r, hr⟩ : ∃ r, r = s.drop i := ⟨_, rfl⟩
            rw [← hr] at hsk
            have hrc : r = c :: s.drop (i + 1) := by rw [hr]; exact HDC.out
            have HRC := hid hrc
            have hwr : wordsR T (skipB s) = preL L (wordsR T r) := by rw [HW.out, ← hr, hsk]
            have HWR := hid hwr
            have hrl : r.length = T - i := by rw [hr, List.length_drop, HTT.out]
            have HRL := hid hrl
            have HR := hid hr
            have hpath : (cn != 47) = true ∧ (cn == 47) = false ∨ (cn == 47) = true ∧ ¬ ((i : Int) + 1 < T) ∨ (cn == 47) = true ∧ (i : Int) + 1 < T ∧ (∃ dn : Int, (dn == 47) = false ∧ ∀ h2, ((sv[i + 1]'h2).toNat : Int) = dn) := by
              have e47 : c = 47 ↔ cn = 47 := by rw [HCN.out]; exact ⟨fun h => by rw [h]; rfl, fun h => UInt8.toNat_inj.1 (show c.toNat = (47 : UInt8).toNat by have : (47 : UInt8).toNat = 47 := rfl; omega)⟩
              have hcs : s[i] = c := HC.out.symm
              rcases note_not hkl hno with h | ⟨h, h1⟩ | ⟨h, h1, h2⟩
              · rw [hcs] at h
                have : ¬ cn = 47 := fun e => h (e47.2 e)
                exact .inl ⟨by simpa using this, by simpa using this⟩
              · rw [hcs] at h
                refine .inr (.inl ⟨by simpa using e47.1 h, by have := HTT.out; omega⟩)
              · rw [hcs] at h
                refine .inr (.inr ⟨by simpa using e47.1 h, by have := HTT.out; omega, ((s[i + 1]).toNat : Int), ?_, HAT.out (i + 1) h1⟩)
                rw [beq_eq_false_iff_ne]
                intro e
                exact h2 (UInt8.toNat_inj.1 (show (s[i + 1]).toNat = (47 : UInt8).toNat by have : (47 : UInt8).toNat = 47 := rfl; omega))
            have hne : r ≠ [] := by rw [hrc]; simp
            have HNE := hid hne
            have hex : sv.extract i T = ⟨r.toArray⟩ := by
              have := mk_drop s i (by omega)
              rw [HSV.out, hr, ← this, mk_size, HTT.out]
            obtain ⟨RV, hRV⟩ : ∃ RV : ByteArray, RV = ⟨r.toArray⟩ := ⟨_, rfl⟩
            rw [← hRV] at hex
            have HEX := hid hex
            have hsg := fun w => rsign_is r w (by rw [hrl]; omega) hne
            rw [← hRV] at hsg
            have HSG0 := hid hsg
            clear hbl hno hsk hr hrc hwr hrl hne hex hRV hsg HW HDC
            go_upto_region 9 with (first | (go_at_call 17; refine (HIN.out _).mono ?_; rintro e w1 ⟨rfl, hf⟩; have HF1 := hid (HF.out.trans hf (fun _ _ h => h)); have HO1 := hid (HO.out.fr hf (fun _ _ h => h)); have s1 := hf.size; clear hf) | still_step | (with_reducible first | refine wpStill_nil ?_ | refine Flow.Both.mk ?_ ?_ | exact True.intro) | (with_reducible refine Flow.same_mk rfl rfl rfl ?_; go_simp; done) | (with_reducible exact Flow.same_un rfl rfl rfl) | (refine Flow.region_still mixed ?hB ?_; (case hB => decide +kernel)))
            go_cut [41] from 15 to 121 (fun v41 wx => v41 = .bool false ∧ wx = w1)
            case first =>
              rcases hpath with ⟨hp1, hp2⟩ | ⟨hp1, hp2⟩ | ⟨hp1, hp2, dn, hp3, hp4⟩
              all_goals
                go_wp2_with (first | still_step | (with_reducible first | refine wpStill_nil ?_ | refine Flow.Both.mk ?_ ?_ | exact True.intro) | (with_reducible refine Flow.same_mk rfl rfl rfl ?_; go_simp; done) | (with_reducible exact Flow.same_un rfl rfl rfl) | (refine Flow.region_still mixed ?hB ?_; (case hB => decide +kernel)))
                go_meet
                exact ⟨rfl, rfl⟩
            case rest =>
              obtain ⟨rfl, rfl⟩ := hcut
              clear hpath
              go_upto_block 4 with (first | still_step | (with_reducible first | refine wpStill_nil ?_ | refine Flow.Both.mk ?_ ?_ | exact True.intro) | (with_reducible refine Flow.same_mk rfl rfl rfl ?_; go_simp; done) | (with_reducible exact Flow.same_un rfl rfl rfl) | (refine Flow.region_still mixed ?hB ?_; (case hB => decide +kernel)))
              go_cut [8] from 15 to 121 (fun v8 wx => ∃ k : Nat, i ≤ k ∧ k ≤ T ∧ v8 = .int .i64 (k : Int) ∧ (∀ j, i ≤ j → j < k → ∀ h : j < s.length, alnum s[j] = true) ∧ (k = s.length ∨ ∃ h : k < s.length, alnum s[k] = false) ∧ Fr (fun _ => False) wc wx)
              case first =>
                go_wp2_with (first | still_step | (with_reducible first | refine wpStill_nil ?_ | refine Flow.Both.mk ?_ ?_ | exact True.intro) | (with_reducible refine Flow.same_mk rfl rfl rfl ?_; go_simp; done) | (with_reducible exact Flow.same_un rfl rfl rfl) | (refine Flow.region_still mixed ?hB ?_; (case hB => decide +kernel)))
                go_loopw [8] (fun v8 wx => ∃ k : Nat, i ≤ k ∧ k ≤ T ∧ v8 = .int .i64 (k : Int) ∧ (∀ j, i ≤ j → j < k → ∀ h : j < s.length, alnum s[j] = true) ∧ Fr (fun _ => False) wc wx) (fun v8 _ => T - (intOf v8).toNat)
                case atStart => exact ⟨i, Nat.le_refl _, by omega, rfl, fun j a b => by omega, by (with_reducible repeat' (first | exact Fr.refl _ _ | apply Fr.alloc | apply Fr.drew | apply Fr.drewN | refine Fr.setCell ?_ ?_ _))⟩
                case round =>
                  obtain ⟨k, hik, hkT, rfl, hall, hfx⟩ := hrel
                  have HA := hid hall
                  have HFZ := hid hfx
                  clear hall hfx
                  by_cases hgo : ∃ h : k < s.length, alnum s[k] = true
                  · obtain ⟨hks, hka⟩ := hgo
                    have hkl3 : (k : Int) < T := by have := HTT.out; omega
                    have hbk := HAT.out k hks
                    have HKA := hid hka
                    obtain ⟨d, hd⟩ : ∃ d, d = s[k] := ⟨_, rfl⟩
                    rw [← hd] at hbk hka
                    have HLT2 := hid (rletter_is (d.toNat : Int))
                    have HDG2 := hid (rdigit_is (d.toNat : Int))
                    rw [letterZ_of] at HLT2
                    rw [digitZ_of] at HDG2
                    generalize (d.toNat : Int) = bn at *
                    cases hL2 : letterB d with
                    | true =>
                      rw [hL2] at HLT2
                      clear hka hL2 hd
                      go_wp2_with (first | (go_at_call 20; refine (HLT2.out _).mono ?_; rintro e wl ⟨rfl, hwl⟩; rw [hwl]; clear hwl) | (go_at_call 21; refine (HDG2.out _).mono ?_; rintro e wd ⟨rfl, hwd⟩; rw [hwd]; clear hwd) | still_step | (with_reducible first | refine wpStill_nil ?_ | refine Flow.Both.mk ?_ ?_ | exact True.intro) | (with_reducible refine Flow.same_mk rfl rfl rfl ?_; go_simp; done) | (with_reducible exact Flow.same_un rfl rfl rfl) | (refine Flow.region_still mixed ?hB ?_; (case hB => decide +kernel)))
                      go_roundw
                      case rel =>
                        refine ⟨k + 1, by omega, by have := HTT.out; omega, rfl, fun j a b h => ?_, by first | exact HFZ.out | exact HFZ.out.drew | exact HFZ.out.trans (show Fr (fun _ => False) wr _ by (with_reducible repeat' (first | exact Fr.refl _ _ | apply Fr.alloc | apply Fr.drew | apply Fr.drewN | refine Fr.setCell ?_ ?_ _))) (fun _ _ h => h)⟩
                        by_cases hj : j = k
                        · subst hj; exact HKA.out
                        · exact HA.out j a (by omega) h
                      case measure => simp [intOf]; omega
                    | false =>
                      rw [hL2] at HLT2
                      have hD2 : digitB d = true := by simpa [alnum, hL2] using hka
                      rw [hD2] at HDG2
                      clear hka hL2 hD2 hd
                      go_wp2_with (first | (go_at_call 20; refine (HLT2.out _).mono ?_; rintro e wl ⟨rfl, hwl⟩; rw [hwl]; clear hwl) | (go_at_call 21; refine (HDG2.out _).mono ?_; rintro e wd ⟨rfl, hwd⟩; rw [hwd]; clear hwd) | still_step | (with_reducible first | refine wpStill_nil ?_ | refine Flow.Both.mk ?_ ?_ | exact True.intro) | (with_reducible refine Flow.same_mk rfl rfl rfl ?_; go_simp; done) | (with_reducible exact Flow.same_un rfl rfl rfl) | (refine Flow.region_still mixed ?hB ?_; (case hB => decide +kernel)))
                      go_roundw
                      case rel =>
                        refine ⟨k + 1, by omega, by have := HTT.out; omega, rfl, fun j a b h => ?_, by first | exact HFZ.out | exact HFZ.out.drew | exact HFZ.out.trans (show Fr (fun _ => False) wr _ by (with_reducible repeat' (first | exact Fr.refl _ _ | apply Fr.alloc | apply Fr.drew | apply Fr.drewN | refine Fr.setCell ?_ ?_ _))) (fun _ _ h => h)⟩
                        by_cases hj : j = k
                        · subst hj; exact HKA.out
                        · exact HA.out j a (by omega) h
                      case measure => simp [intOf]; omega
                  · by_cases hkT2 : k = T
                    · have hA1 : ¬ k < T := by omega
                      have hA2 : ¬ (k : Int) < T := by omega
                      have HKT := hid hkT2
                      clear hgo hkT2
                      go_wp2_with (first | still_step | (with_reducible first | refine wpStill_nil ?_ | refine Flow.Both.mk ?_ ?_ | exact True.intro) | (with_reducible refine Flow.same_mk rfl rfl rfl ?_; go_simp; done) | (with_reducible exact Flow.same_un rfl rfl rfl) | (refine Flow.region_still mixed ?hB ?_; (case hB => decide +kernel)))
                      go_meet
                      exact ⟨k, hik, hkT, rfl, HA.out, .inl (HKT.out.trans HTT.out), by first | exact HFZ.out | exact HFZ.out.drew | exact HFZ.out.trans (show Fr (fun _ => False) wr _ by (with_reducible repeat' (first | exact Fr.refl _ _ | apply Fr.alloc | apply Fr.drew | apply Fr.drewN | refine Fr.setCell ?_ ?_ _))) (fun _ _ h => h)⟩
                    · have hks : k < s.length := by have := HTT.out; omega
                      have hka : alnum s[k] = false := by
                        cases e : alnum s[k] with
                        | false => rfl
                        | true => exact absurd ⟨hks, e⟩ hgo
                      have HKA := hid hka
                      have hkl3 : (k : Int) < T := by have := HTT.out; omega
                      have hbk := HAT.out k hks
                      obtain ⟨d, hd⟩ : ∃ d, d = s[k] := ⟨_, rfl⟩
                      rw [← hd] at hbk hka
                      have HLT2 := hid (rletter_is (d.toNat : Int))
                      have HDG2 := hid (rdigit_is (d.toNat : Int))
                      rw [letterZ_of] at HLT2
                      rw [digitZ_of] at HDG2
                      generalize (d.toNat : Int) = bn at *
                      have hL2 : letterB d = false := by simp only [alnum, Bool.or_eq_false_iff] at hka; exact hka.1
                      have hD2 : digitB d = false := by simp only [alnum, Bool.or_eq_false_iff] at hka; exact hka.2
                      rw [hL2] at HLT2
                      rw [hD2] at HDG2
                      clear hka hL2 hD2 hd hkT2 hgo
                      go_wp2_with (first | (go_at_call 20; refine (HLT2.out _).mono ?_; rintro e wl ⟨rfl, hwl⟩; rw [hwl]; clear hwl) | (go_at_call 21; refine (HDG2.out _).mono ?_; rintro e wd ⟨rfl, hwd⟩; rw [hwd]; clear hwd) | still_step | (with_reducible first | refine wpStill_nil ?_ | refine Flow.Both.mk ?_ ?_ | exact True.intro) | (with_reducible refine Flow.same_mk rfl rfl rfl ?_; go_simp; done) | (with_reducible exact Flow.same_un rfl rfl rfl) | (refine Flow.region_still mixed ?hB ?_; (case hB => decide +kernel)))
                      go_meet
                      exact ⟨k, hik, hkT, rfl, HA.out, .inr ⟨hks, HKA.out⟩, by first | exact HFZ.out | exact HFZ.out.drew | exact HFZ.out.trans (show Fr (fun _ => False) wr _ by (with_reducible repeat' (first | exact Fr.refl _ _ | apply Fr.alloc | apply Fr.drew | apply Fr.drewN | refine Fr.setCell ?_ ?_ _))) (fun _ _ h => h)⟩
              case rest =>
                obtain ⟨k, hik, hkT, rfl, hall, hnot, hfx⟩ := hcut
                have HA := hid hall
                have HFY := hid (HF1.out.trans hfx (fun _ _ h => h))
                have HOY := hid (HO1.out.fr hfx (fun _ _ h => h))
                have HWY := hid (show H0 ≤ wc.heap.size ∧ w.heap.size ≤ wc.heap.size by have := hfx.size; have := HH0.out; omega)
                have hgo : True := trivial
                clear hall hfx
                have hks0 : k ≤ s.length := by have := HTT.out; omega
                obtain ⟨e1, e2⟩ := takeWhile_to alnum s (k - i) i k (by omega) hks0 HA.out hnot
                rw [← HR.out] at e1 e2
                obtain ⟨tw, htw⟩ : ∃ tw, tw = r.takeWhile alnum := ⟨_, rfl⟩
                rw [← htw] at e1 e2
                have HTW := hid htw
                obtain ⟨TL, hTL⟩ : ∃ TL, TL = k - i := ⟨_, rfl⟩
                rw [← hTL] at e1 e2
                have HTL := hid e1
                obtain ⟨X, hX⟩ : ∃ X : ByteArray, X = ⟨tw.toArray⟩ := ⟨_, rfl⟩
                have hxx : sv.extract i k = X := by rw [hX, e2, HR.out, HSV.out, ByteArray.extract_mk, hTL]
                have HX := hid hX
                have hkd : (k : Int) - (i : Int) = (TL : Int) := by omega
                have hik2 : (i : Int) ≤ k := by omega
                have hkT3 : (k : Int) ≤ T := by omega
                have hTL16 : TL ≤ 16384 := by omega
                have HRL2 := hid (show (T : Int) - r.length = (i : Int) by rw [HRL.out]; omega)
                have HDK := hid (show r.drop tw.length = s.drop k by rw [e1, HR.out, List.drop_drop]; congr 1; omega)
                clear hnot e1 e2 htw hX hgo hTL hks0
                go_wp2_with (first | ((with_reducible apply wpList_allocA (ty := 45) (dst := some 9) #[.int .i64 0, .string ⟨#[]⟩, .int .i64 0, .int .i64 0]); (case zai => exact zRW); (case zac => rfl); intro w2 hb hf hs; have HB2 := hid hb; have HF2 := hid (HFY.out.trans hf (fun _ _ h => h)); have HO2 := hid (HOY.out.fr hf (fun _ _ h => h)); clear hb hf hs) | ((with_reducible apply wpList_storeA (b := wc.heap.size) (C := #[.int .i64 0, .string ⟨#[]⟩, .int .i64 0, .int .i64 0]) (cells := #[.int .i64 0, .string X, .int .i64 0, .int .i64 (i : Int)]) (T := 45)); (case zsx => rfl); (case zsy => rfl); (case zsn => rfl); (case zsi => exact szRW); (case zs1 => rfl); (case zsb => exact HB2.out); intro w3 hb hf hs; have HB3 := hid hb; have c1 := hb.cell 1; have lc := hb.lt; have HF3 := hid (HF2.out.trans hf (fun z hz e => by have h1 : z = wc.heap.size := e; have h2 := HWY.out; omega)); have HO3 := hid (HO2.out.fr hf (fun z hz e => by have h1 : z = wc.heap.size := e; have h2 := hz.2; have h3 := HWY.out; omega)); clear hb hf hs) | still_step | (with_reducible first | refine wpStill_nil ?_ | refine Flow.Both.mk ?_ ?_ | exact True.intro) | (with_reducible refine Flow.same_mk rfl rfl rfl ?_; go_simp; done) | (with_reducible exact Flow.same_un rfl rfl rfl) | (refine Flow.region_still mixed ?hB ?_; (case hB => decide +kernel)))
                cases hL : letterB c with
                | true =>
                  rw [hL] at HLT
                  have hnx := next_letter HRC.out hL
                  rw [← HTW.out] at hnx
                  by_cases h24 : 24 < TL
                  · rw [if_pos (by rw [HTL.out]; exact h24)] at hnx
                    have hwe := wordsR_err (T := T) HNE.out hnx
                    rw [HRL2.out] at hwe
                    have HWL := hid (show wordsR T (skipB s) = .error (2, (i : Int)) by rw [HWR.out, hwe]; rfl)
                    have h24' : (24 : Int) < TL := by omega
                    clear hwe hnx hL h24
                    go_at_call 20
                    refine (HLT.out _).mono ?_
                    rintro e wl ⟨rfl, hwl⟩
                    rw [hwl]
                    clear hwl
                    go_wp2_with (first | still_step | (with_reducible first | refine wpStill_nil ?_ | refine Flow.Both.mk ?_ ?_ | exact True.intro) | (with_reducible refine Flow.same_mk rfl rfl rfl ?_; go_simp; done) | (with_reducible exact Flow.same_un rfl rfl rfl) | (refine Flow.region_still mixed ?hB ?_; (case hB => decide +kernel)))
                    go_ret3
                    rw [HWL.out]
                    exact ⟨rfl, HF3.out⟩
                  · rw [if_neg (by rw [HTL.out]; exact h24)] at hnx
                    have hTLp : 0 < TL := by rw [← HTL.out]; exact List.length_pos_iff.2 (nextB_ok hnx).1
                    have hwo := wordsR_ok (T := T) HNE.out hnx
                    rw [HRL2.out, HDK.out] at hwo
                    have HWO := hid (show wordsR T (skipB s) = preL (L ++ [⟨0, tw, 0, (i : Int)⟩]) (wordsR T (skipB (s.drop k))) by rw [HWR.out, hwo, preL_cons])
                    have h24' : (TL : Int) ≤ 24 := by omega
                    clear hwo hnx hL h24
                    go_at_call 20
                    refine (HLT.out _).mono ?_
                    rintro e wl ⟨rfl, hwl⟩
                    rw [hwl]
                    clear hwl
                    go_wp2_with (first | ((with_reducible apply wpList_loadA (b := wc.heap.size) (C := #[.int .i64 0, .string X, .int .i64 0, .int .i64 (i : Int)]) (T := 45)); (case zlx => rfl); (case zlu => exact unRW.choose_spec.1); (case zld => exact unRW.choose_spec.2); (case zli => exact szRW); (case zlb => exact HB3.out)) | (at_builtin; refine wpList_append_Own _ rfl (.tmp 117) (.tmp 119) 27 rfl 45 i0 (.agg #[.int .i64 0, .string ⟨#[]⟩, .int .i64 0, .int .i64 0]) 4 40 Tryd.underlying27 hi0 hz0 hz1 hz2 rfl (by decide) (fun z => w.heap.size ≤ z ∧ z < H0) (fun _ => True) ao N cap (wdsC L) rfl ?own (some ⟨w3.heap.size, 0, none⟩) 1 1 (wdC ⟨0, tw, 0, (i : Int)⟩) rfl ?vw ?one ?b1 ?b2 ?grow) | still_step | (with_reducible first | refine wpStill_nil ?_ | refine Flow.Both.mk ?_ ?_ | exact True.intro) | (with_reducible refine Flow.same_mk rfl rfl rfl ?_; go_simp; done) | (with_reducible exact Flow.same_un rfl rfl rfl) | (refine Flow.region_still mixed ?hB ?_; (case hB => decide +kernel)))
                    case own => exact HO3.out.fr (S := fun _ => False) (by (with_reducible repeat' (first | exact Fr.refl _ _ | apply Fr.alloc | apply Fr.drew | apply Fr.drewN | refine Fr.setCell ?_ ?_ _))) (fun _ _ h => h)
                    case vw =>
                      have key : ∀ W : World, Blk W w3.heap.size #[.int .i64 0, .string X, .int .i64 0, .int .i64 (i : Int)] 45 → Vw W 4 (fun _ => True) (some ⟨w3.heap.size, 0, none⟩) 1 (wdC ⟨0, tw, 0, (i : Int)⟩) := fun W hb => by
                        have h := Vw.of_blk (sz := 4) (n := 1) (R := fun _ => True) hb trivial rfl
                        rw [HX.out] at h
                        exact h
                      exact key _ (by (repeat (with_reducible apply Blk.drew)); exact Blk.new _ _ _)
                    case one => exact wdsC_one [_]
                    case b1 => have h1 := HLL.out; unfold maxLen; omega
                    case b2 => have h1 := HLL.out; omega
                    case grow =>
                      intro ao5 cap5 wg ho5 hf5
                      have HO7 := hid (ho5.mono (R2 := fun z => w.heap.size ≤ z) (fun z _ h => by
                        rcases h with h | h
                        · exact h.1
                        · have h1 := HF3.out.size; (try simp at h); omega))
                      have HF7 := hid ((HF3.out.trans (show Fr (fun _ => False) w3 _ by (with_reducible repeat' (first | exact Fr.refl _ _ | apply Fr.alloc | apply Fr.drew | apply Fr.drewN | refine Fr.setCell ?_ ?_ _))) (fun _ _ h => h)).trans hf5 (fun z hz h => by have h' := h.1; omega))
                      clear ho5 hf5
                      go_wp2_with (first | still_step | (with_reducible first | refine wpStill_nil ?_ | refine Flow.Both.mk ?_ ?_ | exact True.intro) | (with_reducible refine Flow.same_mk rfl rfl rfl ?_; go_simp; done) | (with_reducible exact Flow.same_un rfl rfl rfl) | (refine Flow.region_still mixed ?hB ?_; (case hB => decide +kernel)))
                      refine ⟨⟨L ++ [⟨0, tw, 0, (i : Int)⟩], ao5, cap5, k, by rw [List.length_append, ← HN.out]; rfl, rfl, by have := HTT.out; omega, ?_, ?_, ?_, HF7.out⟩, by simp [intOf]; omega⟩
                      · rw [List.length_append, ← HN.out, wdsC_app]; exact HO7.out
                      · rw [← HTT.out]; exact HWO.out
                      · have h1 := HN.out; have h2 := HLL.out; simp; omega
                | false =>
                  rw [hL] at HLT
                  cases hD : digitB c with
                  | true =>
                    rw [hD] at HDG
                    have hnx := next_digit HRC.out hD
                    rw [← HTW.out] at hnx
                    have hnm := fun w => rnumber_is ⟨tw.toArray⟩ (by rw [mk_size, HTL.out]; omega) w
                    rw [show (ByteArray.data ⟨tw.toArray⟩).toList = tw by simp, ← HX.out] at hnm
                    obtain ⟨⟨NV, NB⟩, hq⟩ : ∃ q, q = numL tw := ⟨_, rfl⟩
                    rw [← hq] at hnm hnx
                    dsimp only at hnm hnx
                    have HNM := hid hnm
                    clear hnm hq hL hD
                    cases NB with
                    | true =>
                      rw [if_pos (by simp)] at hnx
                      have hTLp : 0 < TL := by rw [← HTL.out]; exact List.length_pos_iff.2 (nextB_ok hnx).1
                      have hwo := wordsR_ok (T := T) HNE.out hnx
                      rw [HRL2.out, HDK.out] at hwo
                      have HWO := hid (show wordsR T (skipB s) = preL (L ++ [⟨1, tw, NV, (i : Int)⟩]) (wordsR T (skipB (s.drop k))) by rw [HWR.out, hwo, preL_cons])
                      clear hwo hnx
                      go_at_call 20
                      refine (HLT.out _).mono ?_
                      rintro e wl ⟨rfl, hwl⟩
                      rw [hwl]
                      clear hwl
                      go_wp2_with (first | still_step | (with_reducible first | refine wpStill_nil ?_ | refine Flow.Both.mk ?_ ?_ | exact True.intro) | (with_reducible refine Flow.same_mk rfl rfl rfl ?_; go_simp; done) | (with_reducible exact Flow.same_un rfl rfl rfl) | (refine Flow.region_still mixed ?hB ?_; (case hB => decide +kernel)))
                      go_at_call 21
                      refine (HDG.out _).mono ?_
                      rintro e wd ⟨rfl, hwd⟩
                      rw [hwd]
                      clear hwd
                      go_wp2_with (first | still_step | (with_reducible first | refine wpStill_nil ?_ | refine Flow.Both.mk ?_ ?_ | exact True.intro) | (with_reducible refine Flow.same_mk rfl rfl rfl ?_; go_simp; done) | (with_reducible exact Flow.same_un rfl rfl rfl) | (refine Flow.region_still mixed ?hB ?_; (case hB => decide +kernel)))
                      go_at_call 22
                      refine (HNM.out _).mono ?_
                      rintro e w4 ⟨⟨nv, rfl, hnv⟩, hf⟩
                      obtain rfl : nv = NV := hnv (by simp)
                      have HB4 := hid (HB3.out.fr hf (fun h => h))
                      have HF4 := hid (HF3.out.trans hf (fun _ _ h => h))
                      have HO4 := hid (HO3.out.fr hf (fun _ _ h => h))
                      clear hf hnv c1 lc
                      go_wp2_with (first | ((with_reducible apply wpList_setA (b := wc.heap.size) (o := 0) (C := #[.int .i64 0, .string X, .int .i64 0, .int .i64 (i : Int)]) (v := .int .i64 1) (T := 45)); (case zcx => rfl); (case zcy => rfl); (case zcv => rfl); (case zc1 => rfl); (case zcn => simp); (case zci => exact szTI); (case zcb => exact HB4.out); intro w5 hb hf hs; have HB5 := hid (show Blk w5 wc.heap.size #[.int .i64 1, .string X, .int .i64 0, .int .i64 (i : Int)] 45 from hb); have c1 := hb.cell 1; have lc := hb.lt; have HF5 := hid (HF4.out.trans hf (fun z hz e => by have h1 : z = wc.heap.size := e; have h2 := HWY.out; omega)); have HO5 := hid (HO4.out.fr hf (fun z hz e => by have h1 : z = wc.heap.size := e; have h2 := hz.2; have h3 := HWY.out; omega)); clear hb hf hs) | ((with_reducible apply wpList_setA (b := wc.heap.size) (o := 2) (C := #[.int .i64 1, .string X, .int .i64 0, .int .i64 (i : Int)]) (v := .int .i64 nv) (T := 45)); (case zcx => rfl); (case zcy => rfl); (case zcv => rfl); (case zc1 => rfl); (case zcn => simp); (case zci => exact szTI64); (case zcb => exact HB5.out); intro w6 hb hf hs; have HB6 := hid (show Blk w6 wc.heap.size #[.int .i64 1, .string X, .int .i64 nv, .int .i64 (i : Int)] 45 from hb); have c1 := hb.cell 1; have lc := hb.lt; have HF6 := hid (HF5.out.trans hf (fun z hz e => by have h1 : z = wc.heap.size := e; have h2 := HWY.out; omega)); have HO6 := hid (HO5.out.fr hf (fun z hz e => by have h1 : z = wc.heap.size := e; have h2 := hz.2; have h3 := HWY.out; omega)); clear hb hf hs) | ((with_reducible apply wpList_loadA (b := wc.heap.size) (C := #[.int .i64 1, .string X, .int .i64 nv, .int .i64 (i : Int)]) (T := 45)); (case zlx => rfl); (case zlu => exact unRW.choose_spec.1); (case zld => exact unRW.choose_spec.2); (case zli => exact szRW); (case zlb => exact HB6.out)) | (at_builtin; refine wpList_append_Own _ rfl (.tmp 117) (.tmp 119) 27 rfl 45 i0 (.agg #[.int .i64 0, .string ⟨#[]⟩, .int .i64 0, .int .i64 0]) 4 40 Tryd.underlying27 hi0 hz0 hz1 hz2 rfl (by decide) (fun z => w.heap.size ≤ z ∧ z < H0) (fun _ => True) ao N cap (wdsC L) rfl ?own (some ⟨w6.heap.size, 0, none⟩) 1 1 (wdC ⟨1, tw, nv, (i : Int)⟩) rfl ?vw ?one ?b1 ?b2 ?grow) | still_step | (with_reducible first | refine wpStill_nil ?_ | refine Flow.Both.mk ?_ ?_ | exact True.intro) | (with_reducible refine Flow.same_mk rfl rfl rfl ?_; go_simp; done) | (with_reducible exact Flow.same_un rfl rfl rfl) | (refine Flow.region_still mixed ?hB ?_; (case hB => decide +kernel)))
                      case own => exact HO6.out.fr (S := fun _ => False) (by (with_reducible repeat' (first | exact Fr.refl _ _ | apply Fr.alloc | apply Fr.drew | apply Fr.drewN | refine Fr.setCell ?_ ?_ _))) (fun _ _ h => h)
                      case vw =>
                        have key : ∀ W : World, Blk W w6.heap.size #[.int .i64 1, .string X, .int .i64 nv, .int .i64 (i : Int)] 45 → Vw W 4 (fun _ => True) (some ⟨w6.heap.size, 0, none⟩) 1 (wdC ⟨1, tw, nv, (i : Int)⟩) := fun W hb => by
                          have h := Vw.of_blk (sz := 4) (n := 1) (R := fun _ => True) hb trivial rfl
                          rw [HX.out] at h
                          exact h
                        exact key _ (by (repeat (with_reducible apply Blk.drew)); exact Blk.new _ _ _)
                      case one => exact wdsC_one [_]
                      case b1 => have h1 := HLL.out; unfold maxLen; omega
                      case b2 => have h1 := HLL.out; omega
                      case grow =>
                        intro ao5 cap5 wg ho5 hf5
                        have HO7 := hid (ho5.mono (R2 := fun z => w.heap.size ≤ z) (fun z _ h => by
                          rcases h with h | h
                          · exact h.1
                          · have h1 := HF6.out.size; (try simp at h); omega))
                        have HF7 := hid ((HF6.out.trans (show Fr (fun _ => False) w6 _ by (with_reducible repeat' (first | exact Fr.refl _ _ | apply Fr.alloc | apply Fr.drew | apply Fr.drewN | refine Fr.setCell ?_ ?_ _))) (fun _ _ h => h)).trans hf5 (fun z hz h => by have h' := h.1; omega))
                        clear ho5 hf5
                        go_wp2_with (first | still_step | (with_reducible first | refine wpStill_nil ?_ | refine Flow.Both.mk ?_ ?_ | exact True.intro) | (with_reducible refine Flow.same_mk rfl rfl rfl ?_; go_simp; done) | (with_reducible exact Flow.same_un rfl rfl rfl) | (refine Flow.region_still mixed ?hB ?_; (case hB => decide +kernel)))
                        refine ⟨⟨L ++ [⟨1, tw, nv, (i : Int)⟩], ao5, cap5, k, by rw [List.length_append, ← HN.out]; rfl, rfl, by have := HTT.out; omega, ?_, ?_, ?_, HF7.out⟩, by simp [intOf]; omega⟩
                        · rw [List.length_append, ← HN.out, wdsC_app]; exact HO7.out
                        · rw [← HTT.out]; exact HWO.out
                        · have h1 := HN.out; have h2 := HLL.out; simp; omega
                    | false =>
                      rw [if_neg (by simp)] at hnx
                      have hwe := wordsR_err (T := T) HNE.out hnx
                      rw [HRL2.out] at hwe
                      have HWL := hid (show wordsR T (skipB s) = .error (10, (i : Int)) by rw [HWR.out, hwe]; rfl)
                      clear hwe hnx
                      go_at_call 20
                      refine (HLT.out _).mono ?_
                      rintro e wl ⟨rfl, hwl⟩
                      rw [hwl]
                      clear hwl
                      go_wp2_with (first | still_step | (with_reducible first | refine wpStill_nil ?_ | refine Flow.Both.mk ?_ ?_ | exact True.intro) | (with_reducible refine Flow.same_mk rfl rfl rfl ?_; go_simp; done) | (with_reducible exact Flow.same_un rfl rfl rfl) | (refine Flow.region_still mixed ?hB ?_; (case hB => decide +kernel)))
                      go_at_call 21
                      refine (HDG.out _).mono ?_
                      rintro e wd ⟨rfl, hwd⟩
                      rw [hwd]
                      clear hwd
                      go_wp2_with (first | still_step | (with_reducible first | refine wpStill_nil ?_ | refine Flow.Both.mk ?_ ?_ | exact True.intro) | (with_reducible refine Flow.same_mk rfl rfl rfl ?_; go_simp; done) | (with_reducible exact Flow.same_un rfl rfl rfl) | (refine Flow.region_still mixed ?hB ?_; (case hB => decide +kernel)))
                      go_at_call 22
                      refine (HNM.out _).mono ?_
                      rintro e w4 ⟨⟨nv, rfl, hnv⟩, hf⟩
                      have HF4 := hid (HF3.out.trans hf (fun _ _ h => h))
                      clear hf hnv c1 lc
                      go_wp2_with (first | still_step | (with_reducible first | refine wpStill_nil ?_ | refine Flow.Both.mk ?_ ?_ | exact True.intro) | (with_reducible refine Flow.same_mk rfl rfl rfl ?_; go_simp; done) | (with_reducible exact Flow.same_un rfl rfl rfl) | (refine Flow.region_still mixed ?hB ?_; (case hB => decide +kernel)))
                      go_ret3
                      rw [HWL.out]
                      exact ⟨rfl, HF4.out⟩
                  | false =>
                    rw [hD] at HDG
                    obtain ⟨hnx, htn⟩ := next_sign HRC.out hL hD
                    clear hL hD
                    by_cases hg : sgB r = []
                    · rw [if_pos hg] at hnx
                      have hwe := wordsR_err (T := T) HNE.out hnx
                      rw [HRL2.out] at hwe
                      have HWL := hid (show wordsR T (skipB s) = .error (10, (i : Int)) by rw [HWR.out, hwe]; rfl)
                      have hsg := HSG0.out
                      rw [hg] at hsg
                      have HSG := hid hsg
                      have hex := HEX.out
                      clear hwe hnx hg hsg htn
                      go_at_call 20
                      refine (HLT.out _).mono ?_
                      rintro e wl ⟨rfl, hwl⟩
                      rw [hwl]
                      clear hwl
                      go_wp2_with (first | still_step | (with_reducible first | refine wpStill_nil ?_ | refine Flow.Both.mk ?_ ?_ | exact True.intro) | (with_reducible refine Flow.same_mk rfl rfl rfl ?_; go_simp; done) | (with_reducible exact Flow.same_un rfl rfl rfl) | (refine Flow.region_still mixed ?hB ?_; (case hB => decide +kernel)))
                      go_at_call 21
                      refine (HDG.out _).mono ?_
                      rintro e wd ⟨rfl, hwd⟩
                      rw [hwd]
                      clear hwd
                      go_wp2_with (first | still_step | (with_reducible first | refine wpStill_nil ?_ | refine Flow.Both.mk ?_ ?_ | exact True.intro) | (with_reducible refine Flow.same_mk rfl rfl rfl ?_; go_simp; done) | (with_reducible exact Flow.same_un rfl rfl rfl) | (refine Flow.region_still mixed ?hB ?_; (case hB => decide +kernel)))
                      go_at_call 23
                      refine (HSG.out _).mono ?_
                      rintro e w4 ⟨rfl, hf⟩
                      have HB4 := hid (HB3.out.fr hf (fun h => h))
                      have HF4 := hid (HF3.out.trans hf (fun _ _ h => h))
                      have HO4 := hid (HO3.out.fr hf (fun _ _ h => h))
                      clear hf c1 lc
                      go_wp2_with (first | ((with_reducible apply wpList_setA (b := wc.heap.size) (o := 1) (C := #[.int .i64 0, .string X, .int .i64 0, .int .i64 (i : Int)]) (v := .string ⟨#[]⟩) (T := 45)); (case zcx => rfl); (case zcy => rfl); (case zcv => rfl); (case zc1 => rfl); (case zcn => simp); (case zci => exact szTSTR); (case zcb => exact HB4.out); intro w5 hb hf hs; have HB5 := hid (show Blk w5 wc.heap.size #[.int .i64 0, .string ⟨#[]⟩, .int .i64 0, .int .i64 (i : Int)] 45 from hb); have c1 := hb.cell 1; have lc := hb.lt; have HF5 := hid (HF4.out.trans hf (fun z hz e => by have h1 : z = wc.heap.size := e; have h2 := HWY.out; omega)); have HO5 := hid (HO4.out.fr hf (fun z hz e => by have h1 : z = wc.heap.size := e; have h2 := hz.2; have h3 := HWY.out; omega)); clear hb hf hs) | ((with_reducible apply wpList_setA (b := wc.heap.size) (o := 0) (C := #[.int .i64 0, .string ⟨#[]⟩, .int .i64 0, .int .i64 (i : Int)]) (v := .int .i64 2) (T := 45)); (case zcx => rfl); (case zcy => rfl); (case zcv => rfl); (case zc1 => rfl); (case zcn => simp); (case zci => exact szTI); (case zcb => exact HB5.out); intro w6 hb hf hs; have HB6 := hid (show Blk w6 wc.heap.size #[.int .i64 2, .string ⟨#[]⟩, .int .i64 0, .int .i64 (i : Int)] 45 from hb); have c1 := hb.cell 1; have lc := hb.lt; have HF6 := hid (HF5.out.trans hf (fun z hz e => by have h1 : z = wc.heap.size := e; have h2 := HWY.out; omega)); have HO6 := hid (HO5.out.fr hf (fun z hz e => by have h1 : z = wc.heap.size := e; have h2 := hz.2; have h3 := HWY.out; omega)); clear hb hf hs) | still_step | (with_reducible first | refine wpStill_nil ?_ | refine Flow.Both.mk ?_ ?_ | exact True.intro) | (with_reducible refine Flow.same_mk rfl rfl rfl ?_; go_simp; done) | (with_reducible exact Flow.same_un rfl rfl rfl) | (refine Flow.region_still mixed ?hB ?_; (case hB => decide +kernel)))
                      go_ret3
                      rw [HWL.out]
                      exact ⟨rfl, HF6.out⟩
                    · rw [if_neg hg] at hnx
                      have hwo := wordsR_ok (T := T) HNE.out hnx
                      have hgl := (nextB_ok hnx).2.1.length_le
                      have hgd : r.drop (sgB r).length = s.drop (i + (sgB r).length) := by rw [HR.out, List.drop_drop]
                      rw [HRL2.out, hgd] at hwo
                      obtain ⟨g, hgg⟩ : ∃ g, g = sgB r := ⟨_, rfl⟩
                      have hsg := HSG0.out
                      rw [← hgg] at hwo hgl hsg
                      have HWO := hid (show wordsR T (skipB s) = preL (L ++ [⟨2, g, 0, (i : Int)⟩]) (wordsR T (skipB (s.drop (i + g.length)))) by rw [HWR.out, hwo, preL_cons])
                      obtain ⟨G, hG⟩ : ∃ G : ByteArray, G = ⟨g.toArray⟩ := ⟨_, rfl⟩
                      rw [← hG] at hsg
                      have hGe : G.toList.isEmpty = false := by
                        rw [Lib.toList_data, hG]
                        cases e : g with
                        | nil => exact absurd (hgg.symm.trans e) hg
                        | cons => rfl
                      have HG := hid hG
                      have hgpos : 0 < g.length := List.length_pos_iff.2 (fun e => hg (hgg.symm.trans e))
                      have HGL := hid (show i + g.length ≤ T ∧ 0 < g.length by have := HRL.out; omega)
                      have hGs : G.size = g.length := by rw [hG]; exact mk_size g
                      have HSG := hid hsg
                      have hex := HEX.out
                      clear hwo hnx hg hsg htn hgg hG hgl hgd hgpos
                      generalize hGL : g.length = GL at *
                      have hgT := HGL.out.1
                      have hgl0 := HGL.out.2
                      have hgT2 : (i : Int) + GL ≤ T := by omega
                      go_at_call 20
                      refine (HLT.out _).mono ?_
                      rintro e wl ⟨rfl, hwl⟩
                      rw [hwl]
                      clear hwl
                      go_wp2_with (first | still_step | (with_reducible first | refine wpStill_nil ?_ | refine Flow.Both.mk ?_ ?_ | exact True.intro) | (with_reducible refine Flow.same_mk rfl rfl rfl ?_; go_simp; done) | (with_reducible exact Flow.same_un rfl rfl rfl) | (refine Flow.region_still mixed ?hB ?_; (case hB => decide +kernel)))
                      go_at_call 21
                      refine (HDG.out _).mono ?_
                      rintro e wd ⟨rfl, hwd⟩
                      rw [hwd]
                      clear hwd
                      go_wp2_with (first | still_step | (with_reducible first | refine wpStill_nil ?_ | refine Flow.Both.mk ?_ ?_ | exact True.intro) | (with_reducible refine Flow.same_mk rfl rfl rfl ?_; go_simp; done) | (with_reducible exact Flow.same_un rfl rfl rfl) | (refine Flow.region_still mixed ?hB ?_; (case hB => decide +kernel)))
                      go_at_call 23
                      refine (HSG.out _).mono ?_
                      rintro e w4 ⟨rfl, hf⟩
                      have HB4 := hid (HB3.out.fr hf (fun h => h))
                      have HF4 := hid (HF3.out.trans hf (fun _ _ h => h))
                      have HO4 := hid (HO3.out.fr hf (fun _ _ h => h))
                      clear hf c1 lc
                      go_wp2_with (first | ((with_reducible apply wpList_setA (b := wc.heap.size) (o := 1) (C := #[.int .i64 0, .string X, .int .i64 0, .int .i64 (i : Int)]) (v := .string G) (T := 45)); (case zcx => rfl); (case zcy => rfl); (case zcv => rfl); (case zc1 => rfl); (case zcn => simp); (case zci => exact szTSTR); (case zcb => exact HB4.out); intro w5 hb hf hs; have HB5 := hid (show Blk w5 wc.heap.size #[.int .i64 0, .string G, .int .i64 0, .int .i64 (i : Int)] 45 from hb); have c1 := hb.cell 1; have lc := hb.lt; have HF5 := hid (HF4.out.trans hf (fun z hz e => by have h1 : z = wc.heap.size := e; have h2 := HWY.out; omega)); have HO5 := hid (HO4.out.fr hf (fun z hz e => by have h1 : z = wc.heap.size := e; have h2 := hz.2; have h3 := HWY.out; omega)); clear hb hf hs) | ((with_reducible apply wpList_setA (b := wc.heap.size) (o := 0) (C := #[.int .i64 0, .string G, .int .i64 0, .int .i64 (i : Int)]) (v := .int .i64 2) (T := 45)); (case zcx => rfl); (case zcy => rfl); (case zcv => rfl); (case zc1 => rfl); (case zcn => simp); (case zci => exact szTI); (case zcb => exact HB5.out); intro w6 hb hf hs; have HB6 := hid (show Blk w6 wc.heap.size #[.int .i64 2, .string G, .int .i64 0, .int .i64 (i : Int)] 45 from hb); have c1 := hb.cell 1; have lc := hb.lt; have HF6 := hid (HF5.out.trans hf (fun z hz e => by have h1 : z = wc.heap.size := e; have h2 := HWY.out; omega)); have HO6 := hid (HO5.out.fr hf (fun z hz e => by have h1 : z = wc.heap.size := e; have h2 := hz.2; have h3 := HWY.out; omega)); clear hb hf hs) | ((with_reducible apply wpList_loadA (b := wc.heap.size) (C := #[.int .i64 2, .string G, .int .i64 0, .int .i64 (i : Int)]) (T := 45)); (case zlx => rfl); (case zlu => exact unRW.choose_spec.1); (case zld => exact unRW.choose_spec.2); (case zli => exact szRW); (case zlb => exact HB6.out)) | (at_builtin; refine wpList_append_Own _ rfl (.tmp 117) (.tmp 119) 27 rfl 45 i0 (.agg #[.int .i64 0, .string ⟨#[]⟩, .int .i64 0, .int .i64 0]) 4 40 Tryd.underlying27 hi0 hz0 hz1 hz2 rfl (by decide) (fun z => w.heap.size ≤ z ∧ z < H0) (fun _ => True) ao N cap (wdsC L) rfl ?own (some ⟨w6.heap.size, 0, none⟩) 1 1 (wdC ⟨2, g, 0, (i : Int)⟩) rfl ?vw ?one ?b1 ?b2 ?grow) | still_step | (with_reducible first | refine wpStill_nil ?_ | refine Flow.Both.mk ?_ ?_ | exact True.intro) | (with_reducible refine Flow.same_mk rfl rfl rfl ?_; go_simp; done) | (with_reducible exact Flow.same_un rfl rfl rfl) | (refine Flow.region_still mixed ?hB ?_; (case hB => decide +kernel)))
                      case own => exact HO6.out.fr (S := fun _ => False) (by (with_reducible repeat' (first | exact Fr.refl _ _ | apply Fr.alloc | apply Fr.drew | apply Fr.drewN | refine Fr.setCell ?_ ?_ _))) (fun _ _ h => h)
                      case vw =>
                        have key : ∀ W : World, Blk W w6.heap.size #[.int .i64 2, .string G, .int .i64 0, .int .i64 (i : Int)] 45 → Vw W 4 (fun _ => True) (some ⟨w6.heap.size, 0, none⟩) 1 (wdC ⟨2, g, 0, (i : Int)⟩) := fun W hb => by
                          have h := Vw.of_blk (sz := 4) (n := 1) (R := fun _ => True) hb trivial rfl
                          rw [HG.out] at h
                          exact h
                        exact key _ (by (repeat (with_reducible apply Blk.drew)); exact Blk.new _ _ _)
                      case one => exact wdsC_one [_]
                      case b1 => have h1 := HLL.out; unfold maxLen; omega
                      case b2 => have h1 := HLL.out; omega
                      case grow =>
                        intro ao5 cap5 wg ho5 hf5
                        have HO7 := hid (ho5.mono (R2 := fun z => w.heap.size ≤ z) (fun z _ h => by
                          rcases h with h | h
                          · exact h.1
                          · have h1 := HF6.out.size; (try simp at h); omega))
                        have HF7 := hid ((HF6.out.trans (show Fr (fun _ => False) w6 _ by (with_reducible repeat' (first | exact Fr.refl _ _ | apply Fr.alloc | apply Fr.drew | apply Fr.drewN | refine Fr.setCell ?_ ?_ _))) (fun _ _ h => h)).trans hf5 (fun z hz h => by have h' := h.1; omega))
                        clear ho5 hf5
                        go_wp2_with (first | still_step | (with_reducible first | refine wpStill_nil ?_ | refine Flow.Both.mk ?_ ?_ | exact True.intro) | (with_reducible refine Flow.same_mk rfl rfl rfl ?_; go_simp; done) | (with_reducible exact Flow.same_un rfl rfl rfl) | (refine Flow.region_still mixed ?hB ?_; (case hB => decide +kernel)))
                        refine ⟨⟨L ++ [⟨2, g, 0, (i : Int)⟩], ao5, cap5, (i + GL), by rw [List.length_append, ← HN.out]; rfl, rfl, by have := HTT.out; omega, ?_, ?_, ?_, HF7.out⟩, by simp [intOf]; omega⟩
                        · rw [List.length_append, ← HN.out, wdsC_app]; exact HO7.out
                        · rw [← HTT.out]; exact HWO.out
                        · have h1 := HN.out; have h2 := HLL.out; simp; omega
      · obtain rfl : T = i := by omega
        have hwl : wordsR T (skipB s) = .ok (L ++ [⟨3, [], 0, T⟩]) := by
          rw [HW.out, List.drop_eq_nil_of_le (show s.length ≤ T by have := HTT.out; omega), show skipB [] = [] from by rw [skipB_else (by rfl)]; rfl, wordsR_nil]
          rfl
        have HWL := hid hwl
        clear hwl
        go_wp2_with (first | (at_builtin; refine wpList_append_Own _ rfl (.tmp 122) (.tmp 126) 27 rfl 45 i0 (.agg #[.int .i64 0, .string ⟨#[]⟩, .int .i64 0, .int .i64 0]) 4 40 Tryd.underlying27 hi0 hz0 hz1 hz2 rfl (by decide) (fun z => w.heap.size ≤ z ∧ z < H0) (fun _ => True) ao N cap (wdsC L) rfl ?own (some ⟨wq.heap.size, 0, none⟩) 1 1 (wdC ⟨3, [], 0, T⟩) rfl ?vw ?one ?b1 ?b2 ?grow) | still_step | (with_reducible first | refine wpStill_nil ?_ | refine Flow.Both.mk ?_ ?_ | exact True.intro) | (with_reducible refine Flow.same_mk rfl rfl rfl ?_; go_simp; done) | (with_reducible exact Flow.same_un rfl rfl rfl) | (refine Flow.region_still mixed ?hB ?_; (case hB => decide +kernel)))
        case own => exact HO.out.fr (S := fun _ => False) (by (with_reducible repeat' (first | exact Fr.refl _ _ | apply Fr.alloc | apply Fr.drew | apply Fr.drewN | refine Fr.setCell ?_ ?_ _))) (fun _ _ h => h)
        case vw =>
          have key : ∀ W : World, Blk W wq.heap.size #[.int .i64 3, .string ⟨#[]⟩, .int .i64 0, .int .i64 (T : Int)] 45 → Vw W 4 (fun _ => True) (some ⟨wq.heap.size, 0, none⟩) 1 (wdC ⟨3, [], 0, T⟩) := fun W hb => Vw.of_blk (sz := 4) (n := 1) (R := fun _ => True) hb trivial rfl
          exact key _ (by (repeat (with_reducible apply Blk.drew)); exact Blk.new _ _ _)
        case one => exact wdsC_one [_]
        case b1 => have h1 := HLL.out; unfold maxLen; omega
        case b2 => have h1 := HLL.out; omega
        case grow =>
          intro ao5 cap5 w5 ho5 hf5
          have HO5 := hid (ho5.mono (R2 := fun z => w.heap.size ≤ z) (fun z _ h => by
            rcases h with h | h
            · exact h.1
            · have h3 := HH0.out; (try simp at h); omega))
          have HF5 := hid ((HF.out.trans (show Fr (fun _ => False) wq _ by (with_reducible repeat' (first | exact Fr.refl _ _ | apply Fr.alloc | apply Fr.drew | apply Fr.drewN | refine Fr.setCell ?_ ?_ _))) (fun _ _ h => h)).trans hf5 (fun z hz h => by have h' := h.1; omega))
          clear ho5 hf5
          go_wp2_with (first | still_step | (with_reducible first | refine wpStill_nil ?_ | refine Flow.Both.mk ?_ ?_ | exact True.intro) | (with_reducible refine Flow.same_mk rfl rfl rfl ?_; go_simp; done) | (with_reducible exact Flow.same_un rfl rfl rfl) | (refine Flow.region_still mixed ?hB ?_; (case hB => decide +kernel)))
          go_ret3
          rw [HWL.out]
          refine ⟨ao5, cap5, by rw [List.length_append, ← HN.out]; rfl, ?_, HF5.out⟩
          rw [List.length_append, ← HN.out, wdsC_app]
          exact HO5.out
end Go.Proofs.YtfiebpcambdbaaaDoor
