/-
  SpecWindow: so many steps may be guessed as there is a window for, and no more; a way back gives them again.
-/
import Derived.Test.YtbfeopakmjcapaaAwake29
import Derived.Test.YtbfeopakmjcapaaSpRow
import Derived.Test.YtbfeopakmjcapaaSpL4
import Derived.Test.YtbfeopakmjcapaaOpenB
set_option linter.unusedVariables false
namespace Go.Proofs.Ytbfeopakmjcapaa.Sp
open Go.RowKit Go.Proofs.Ytbfeopakmjcapaa.Seq Go.Proofs.Ytbfeopakmjcapaa.Tso
attribute [local irreducible] wpStill wpList Calls CallsIn

theorem lastCell {w : World} {Q : Nat → Prop} {rr ro M c : Nat} {steps : List Int} (h : OwnAt w 3 1 Q (some ⟨rr, ro, none⟩) (M + 1) c (ints steps)) (hl : M + 1 = steps.length) : w.cell? ⟨rr, ro + M, none⟩ = some (.int .i64 (steps.getD M 0)) := by
  have hne : ints steps ≠ [] := fun h => by have := congrArg List.length h; rw [ints_length] at this; simp only [List.length_nil] at this; omega
  obtain ⟨r, o, e, _, hc⟩ := h.vw.cell hne
  simp at e
  obtain ⟨rfl, rfl⟩ := e
  exact hc M _ (ints_get steps M (by omega))
theorem row_drop {w0 w : World} {R : Nat → Prop} {E : TypeId} {a : Option Addr} {M c : Nat} {steps : List Int} (h : RowS w0 w R E 1 (.slice a (M + 1) c) (M + 1) (ints steps)) (hl : M + 1 = steps.length) : RowS w0 w R E 1 (.slice a M c) steps.dropLast.length (ints steps.dropLast) := by
  obtain ⟨a', c', he, hr⟩ := h.shrink (m := M) (by omega)
  simp only [Value.slice.injEq, true_and] at he
  obtain ⟨rfl, rfl⟩ := he
  have e1 : steps.dropLast.length = M := by rw [List.length_dropLast]; omega
  have e2 : (ints steps).take (M * 1) = ints steps.dropLast := by rw [List.dropLast_eq_take, Nat.mul_one, ← hl]; simp [ints, List.map_take]
  rw [e1, ← e2]
  exact hr
theorem infoTINT : (Try.prog.info? 3).map (fun i => (i.zero, i.size, i.bytes)) = some (some (.int .i64 0), 1, 8) := by kernel_rfl
set_option linter.unusedSimpArgs false in
set_option maxHeartbeats 40000000 in
set_option maxRecDepth 100000 in
theorem window_walk (win : Int) (a1 : Option Addr) (cap1 : Nat) (l : List Int) (w : World) (hw0 : 0 ≤ win) (hw1 : win ≤ 255) (hu : ∀ x ∈ l, 0 ≤ x ∧ x ≤ 255)
    (hv : Vw w 1 (fun k => k < w.heap.size) a1 l.length (intsK .u8 l)) (hll : l.length ≤ 9223372036854775807) :
    Calls Try.prog 5 #[.int .u8 win, .slice a1 l.length cap1] w fun e w' => e = .returned (.bool true) ∧ Fr (fun _ => False) w w' := by
  obtain ⟨i0, hi0, hz0, hz1, hz2⟩ := info_parts infoTINT
  have HV := hid hv
  have HU := hid hu
  clear hv hu
  obtain ⟨LL, hLL⟩ : ∃ LL, LL = l.length := ⟨_, rfl⟩
  have HLL := hid hLL
  rw [← hLL] at hll ⊢
  clear hLL
  go_enter Try.func5, Try.ntmps5
  go_wp2_with (first | fail | still_step | (with_reducible refine wpStill_nil ?_) | (with_reducible refine Flow.Both.mk ?_ ?_) | (with_reducible exact True.intro) | (with_reducible refine Flow.same_mk rfl rfl rfl ?_; go_simp; done) | (with_reducible exact Flow.same_un rfl rfl rfl) | (refine Flow.region_still mixed ?hB ?_; (case hB => decide +kernel)))
  go_at_call 10
  refine Calls.named fun wc hwc => ?_
  have hfc : Fr (fun _ => False) w wc := by rw [hwc]; (repeat' (first | with_reducible exact Fr.refl _ _ | with_reducible apply Fr.alloc | with_reducible apply Fr.drew | with_reducible apply Fr.drewN | (with_reducible refine Fr.setCell ?_ ?_ _)))
  refine (awake29_true _).mono ?_
  rintro e w1 ⟨rfl, hf1⟩
  have HF1 := hid (hfc.trans hf1 (fun _ _ h => h))
  clear hf1 hwc hfc
  go_wp2_with (first | fail | still_step | (with_reducible refine wpStill_nil ?_) | (with_reducible refine Flow.Both.mk ?_ ?_) | (with_reducible exact True.intro) | (with_reducible refine Flow.same_mk rfl rfl rfl ?_; go_simp; done) | (with_reducible exact Flow.same_un rfl rfl rfl) | (refine Flow.region_still mixed ?hB ?_; (case hB => decide +kernel)))
  obtain ⟨N, hN⟩ : ∃ N, N = win % 64 + 1 := ⟨_, rfl⟩
  have hN1 : 1 ≤ N ∧ N ≤ 64 := by omega
  rw [← hN]
  clear hN
  go_at_call 12
  refine Calls.named fun wc hwc => ?_
  have hfc : Fr (fun _ => False) w1 wc := by rw [hwc]; (repeat' (first | with_reducible exact Fr.refl _ _ | with_reducible apply Fr.alloc | with_reducible apply Fr.drew | with_reducible apply Fr.drewN | (with_reducible refine Fr.setCell ?_ ?_ _)))
  have hbc : Blk wc w1.heap.size (codeC loopC).toArray 57 := by rw [hwc]; (repeat (first | exact Blk.new w1 _ _ | with_reducible apply Blk.drew | with_reducible apply Blk.alloc))
  have hbt : Blk wc (w1.heap.size + 1) #[.slice (some ⟨w1.heap.size, 0, none⟩) 2 2] 59 := by rw [hwc]; (repeat (first | exact Blk.new' (by simp) | with_reducible apply Blk.drew | with_reducible apply Blk.alloc))
  clear hwc
  refine (snew_is (fun _ => True) (fun _ => True) (some ⟨w1.heap.size + 1, 0, none⟩) none none 1 0 0 0 [((some ⟨w1.heap.size, 0, none⟩, 2), loopC)] 0 0 1 N [] wc ?hc ⟨by simp [ints], .inl rfl⟩ (fun _ => rfl) (by simp) (by simp) ?hi (by omega) (by omega) (by omega) (by omega)).mono ?hk
  case hc =>
    refine ⟨Vw.of_blk hbt trivial rfl, fun q hq => ?_⟩
    simp at hq
    subst hq
    exact ⟨Vw.of_blk (C := (codeC loopC).toArray) hbc trivial rfl, fun h => by cases h⟩
  case hi =>
    intro q hq
    simp at hq
    subst hq
    simp [loopC]
  case hk =>
    rintro e w0 ⟨SB, rfl, hs0, hf0⟩
    obtain ⟨s0, hs0'⟩ : ∃ x, x = startS [loopC] 0 [] 0 1 N := ⟨_, rfl⟩
    have hs0 : SR w0 (fun k => wc.heap.size ≤ k ∧ k < w0.heap.size) SB s0 := by rw [hs0']; exact hs0
    have hft : Fits s0 0 := by
      rw [hs0']
      refine start_fits (fun c hc => ?_) (by omega) hN1 (by omega)
      simp at hc
      subst hc
      intro i hi
      simp [loopC] at hi
      rcases hi with rfl | rfl <;> simp [insOk, loopC]
    have hlp : LoopS s0 N [] 0 0 := by
      rw [hs0']
      exact ⟨rfl, .inl rfl, ⟨[], rfl, rfl, fun g hg => (by cases hg)⟩, rfl⟩
    have hwc := hfc.size
    have hw1' := HF1.out.size
    have HS0 := hid (show Sts w w0 _ SB s0 [] from ⟨hs0, fun e he => (by cases he), (HF1.out.trans hfc (fun _ _ h => h)).trans hf0 (fun _ _ h => h), fun z hz => by have := hz.1; omega⟩)
    have HFT := hid hft
    have HLP := hid hlp
    clear hfc hbc hbt hs0 hf0 hwc hw1' hft hlp hs0' HF1
    by_cases h200 : 200 < LL
    · go_wp2_with (first | fail | still_step | (with_reducible refine wpStill_nil ?_) | (with_reducible refine Flow.Both.mk ?_ ?_) | (with_reducible exact True.intro) | (with_reducible refine Flow.same_mk rfl rfl rfl ?_; go_simp; done) | (with_reducible exact Flow.same_un rfl rfl rfl) | (refine Flow.region_still mixed ?hB ?_; (case hB => decide +kernel)))
      go_ret
      exact ⟨rfl, (Sts.fr HS0.out (show Fr (fun _ => False) w0 _ by (repeat' (first | with_reducible exact Fr.refl _ _ | with_reducible apply Fr.alloc | with_reducible apply Fr.drew | with_reducible apply Fr.drewN | (with_reducible refine Fr.setCell ?_ ?_ _))))).fr0⟩
    go_wp2_with (first | fail | still_step | (with_reducible refine wpStill_nil ?_) | (with_reducible refine Flow.Both.mk ?_ ?_) | (with_reducible exact True.intro) | (with_reducible refine Flow.same_mk rfl rfl rfl ?_; go_simp; done) | (with_reducible exact Flow.same_un rfl rfl rfl) | (refine Flow.region_still mixed ?hB ?_; (case hB => decide +kernel)))
    go_loopw [9, 10, 11] (fun v nw i wr => ∃ (k : Nat) (R : Nat → Prop) (s : SM) (steps : List Int) (now p : Int), k ≤ LL ∧ i = .int .i64 k ∧ nw = .int .i64 now ∧ Sts w wr R SB s [] ∧ Fits s k ∧ LoopS s N steps now p ∧ RowS w wr R 3 1 v steps.length (ints steps)) (fun _ _ i _ => LL - (intOf i).toNat)
    case atStart => exact ⟨0, _, _, [], 0, 0, Nat.zero_le _, rfl, rfl, Sts.fr HS0.out (show Fr (fun _ => False) w0 _ by (repeat' (first | with_reducible exact Fr.refl _ _ | with_reducible apply Fr.alloc | with_reducible apply Fr.drew | with_reducible apply Fr.drewN | (with_reducible refine Fr.setCell ?_ ?_ _)))), HFT.out, HLP.out, RowS.nil _ _ _ _ _⟩
    case round =>
      obtain ⟨k, R, s, steps, now, p, hk, rfl, rfl, hst, hfit, hlp, hrow⟩ := hrel
      have HF := hid hfit
      have HLP := hid hlp
      obtain ⟨L, ra, rc, rfl, hLa, hL0, hLo⟩ := hrow.toL
      have HST := hid (hst.add hLa)
      have HL0 := hid hL0
      have HLO := hid hLo
      obtain ⟨SL, hSL⟩ : ∃ SL, SL = steps.length := ⟨_, rfl⟩
      have HSL := hid hSL
      rw [← hSL] at HLO ⊢
      clear hst hfit HS0 HFT hLa hL0 hLo hSL hrow
      by_cases hlt : k < LL
      · have hkl : k < l.length := by have := HLL.out; omega
        have hne : intsK .u8 l ≠ [] := fun h => by have := intsK_length .u8 l; rw [h] at this; simp at this; omega
        obtain ⟨r0, off0, rfl, hr0, hcell⟩ := HV.out.cell hne
        have HCELL := hid (show ∀ W : World, Fr (fun _ => False) w W → W.cell? ⟨r0, off0 + k, none⟩ = some (.int .u8 l[k]) from fun W hf => hf.cell (hcell k _ (by simp [intsK, hkl])) (fun h => h))
        have hx := HU.out l[k] (List.getElem_mem hkl)
        clear hcell hne
        generalize l[k] = x at *
        obtain ⟨hx0, hx1⟩ := hx
        obtain ⟨lp1, lp2⟩ := loop_next hlp
        have hcnt := loop_count hlp
        have hnow := loop_now HF.out.ok hlp
        have c0 := HCELL.out _ HST.out.fr0
        clear hlp lp1
        by_cases hop : 0 < SL
        · obtain ⟨M, rfl⟩ : ∃ M, SL = M + 1 := ⟨SL - 1, by omega⟩
          have hwr : IntKind.i64.wrap ((M : Nat) : Int) = ((M : Nat) : Int) := by
            have h1 := HF.out.ok
            have h2 := count_le h1 0
            have h3 := h1.win
            rw [hcnt, ← HSL.out] at h2
            rw [IntWalk.i64_left, IntWalk.wrap64_in _ (by omega)]
          have hlm : ((M : Nat) : Int) < ((M : Nat) : Int) + 1 := by omega
          have hne : ints steps ≠ [] := fun h => by have := congrArg List.length h; rw [ints_length] at this; simp only [List.length_nil] at this; have := HSL.out; omega
          obtain ⟨rr, ro, rfl, _, _⟩ := (HLO.out wr (fun e he => (HST.out.keep e (by simp [he])).1)).vw.cell hne
          have hMc : M ≤ rc := by have := (HLO.out wr (fun e he => (HST.out.keep e (by simp [he])).1)).1; omega
          have HNE := hid hne
          clear hne
          go_wp2_with (first | fail | still_step | (with_reducible refine wpStill_nil ?_) | (with_reducible refine Flow.Both.mk ?_ ?_) | (with_reducible exact True.intro) | (with_reducible refine Flow.same_mk rfl rfl rfl ?_; go_simp; done) | (with_reducible exact Flow.same_un rfl rfl rfl) | (refine Flow.region_still mixed ?hB ?_; (case hB => decide +kernel)))
          go_at_call 14
          refine Calls.named fun wc hwc => ?_
          have hST := Sts.fr HST.out (show Fr (fun _ => False) wr wc by rw [hwc]; (repeat' (first | with_reducible exact Fr.refl _ _ | with_reducible apply Fr.alloc | with_reducible apply Fr.drew | with_reducible apply Fr.drewN | (with_reducible refine Fr.setCell ?_ ?_ _))))
          clear HST hwc
          have HST := hid hST
          clear hST
          have hti := sthread_is SB _ s 0 wc HST.out.sr
          rw [lp2] at hti
          refine hti.mono ?_
          rintro e w4 ⟨ta, tc, rfl, ho4, hf4⟩
          clear ho4 hti
          have hST := HST.out.fr hf4
          clear HST hf4
          have HST := hid hST
          clear hST
          clear c0
          have c0 := HCELL.out _ HST.out.fr0
          obtain ⟨vl, hvl⟩ : ∃ vl, vl = (standV ((some (loopTh p)).getD noTh) ta tc).toArray := ⟨_, rfl⟩
          have hfp : Sem.run Try.prog (Instr.field 45 (.agg vl) 0) w4 = .ok (.int .i64 p) w4 := by rw [hvl]; exact field_place (loopTh p) ta tc rfl w4
          rw [← hvl]
          clear hvl
          by_cases h0 : x % 4 = 0
          · have he0 : (x % 4 == 0) = true := by simpa using h0
            clear h0
            obtain ⟨⟨s1, ⟨kk, kt, kw, kn⟩, is1⟩, hres⟩ : ∃ r, r = s.doIt 4 0 := ⟨_, rfl⟩
            have hlb := loop_back HF.out.ok HLP.out
            rw [← hres] at hlb
            have hfit1 : Fits s1 (k + 1) := by have := HF.out.doIt 4 0; rw [← hres] at this; exact this
            have HRES := hid hres
            have HF1 := hid hfit1
            obtain ⟨b1, b2, b3⟩ := hlb
            dsimp only at b1 b2 b3
            clear hres hfit1
            have hsne : steps ≠ [] := fun e => by have := HSL.out; rw [e] at this; simp at this
            rw [decide_eq_true hsne] at b1
            subst b1
            obtain ⟨p', hlp1⟩ := b2 rfl
            have HLP1 := hid hlp1
            have hdl : steps.dropLast.length = M := by rw [List.length_dropLast]; have := HSL.out; omega
            have hgl : steps.getD M 0 = steps.getLastD 0 := by rw [List.getLastD_eq_getLast?, List.getLast?_eq_getElem?, ← HSL.out]; simp [List.getD_eq_getElem?_getD]
            obtain ⟨lv, hlv⟩ : ∃ lv, lv = steps.getD M 0 := ⟨_, rfl⟩
            have HLV := hid hlv
            have HDL := hid hdl
            have HGL := hid hgl
            clear b2 b3 hlp1 hdl hgl hsne hlv
            go_wp2_with (first | fail | still_step | (with_reducible refine wpStill_nil ?_) | (with_reducible refine Flow.Both.mk ?_ ?_) | (with_reducible exact True.intro) | (with_reducible refine Flow.same_mk rfl rfl rfl ?_; go_simp; done) | (with_reducible exact Flow.same_un rfl rfl rfl) | (refine Flow.region_still mixed ?hB ?_; (case hB => decide +kernel)))
            go_at_call 13
            refine Calls.named fun wc hwc => ?_
            have hST := Sts.fr HST.out (show Fr (fun _ => False) w4 wc by rw [hwc]; (repeat' (first | with_reducible exact Fr.refl _ _ | with_reducible apply Fr.alloc | with_reducible apply Fr.drew | with_reducible apply Fr.drewN | (with_reducible refine Fr.setCell ?_ ?_ _))))
            clear HST hwc
            have HST := hid hST
            clear hST
            have hdi := do_is SB _ s 4 0 wc HST.out.sr HF.out.ok (HF.out.room (by omega)) HF.out.mem
            rw [← HRES.out] at hdi
            refine hdi.mono ?_
            clear hdi
            rintro e w6 ⟨rfl, R6, hm6, hv6⟩
            have hST := HST.out.mv hm6 hv6
            clear hm6 hv6 HST
            have HST := hid hST
            clear hST c0
            dsimp only [leakV]
            go_wp2_with (first | ((with_reducible apply wpList_allocA (ty := 37) #[.int .i64 0, .int .i64 0, .int .i64 0, .int .i64 0]); (case zai => exact zLK); (case zac => rfl); intro wA hbA hfA hsA; have HBA := hid hbA; have HFA := hid hfA; clear hbA hfA hsA) | ((with_reducible apply wpList_storeA (b := w6.heap.size) (C := #[.int .i64 0, .int .i64 0, .int .i64 0, .int .i64 0]) (cells := #[.int .i64 (kk), .int .i64 (kt), .int .i64 (kw), .int .i64 (kn)]) (T := 37)); (case zsx => rfl); (case zsy => rfl); (case zsn => rfl); (case zsi => exact szLK); (case zs1 => rfl); (case zsb => exact HBA.out); intro wS6 hbS hfS hsS; have hST := Sts.new HST.out (fr_made HFA.out hfS (Nat.le_refl _)) hbS (Nat.le_refl _); clear HST HBA HFA hbS hfS hsS; have HST := hid hST; have cM : wS6.cell? ⟨rr, ro + M, none⟩ = some (.int .i64 lv) := (by rw [HLV.out]; exact lastCell (HLO.out wS6 (fun e he => (hST.keep e (by simp [he])).1)) HSL.out); clear hST) | still_step | (with_reducible refine wpStill_nil ?_) | (with_reducible refine Flow.Both.mk ?_ ?_) | (with_reducible exact True.intro) | (with_reducible refine Flow.same_mk rfl rfl rfl ?_; go_simp; done) | (with_reducible exact Flow.same_un rfl rfl rfl) | (refine Flow.region_still mixed ?hB ?_; (case hB => decide +kernel)))
            go_at_call 17
            refine Calls.named fun wc hwc => ?_
            have hST := Sts.fr HST.out (show Fr (fun _ => False) wS6 wc by rw [hwc]; (repeat' (first | with_reducible exact Fr.refl _ _ | with_reducible apply Fr.alloc | with_reducible apply Fr.drew | with_reducible apply Fr.drewN | (with_reducible refine Fr.setCell ?_ ?_ _))))
            clear HST hwc
            have HST := hid hST
            clear hST
            refine (count_is SB _ s1 0 wc HST.out.sr).mono ?_
            rintro e w8 ⟨rfl, hf8⟩
            rw [loop_count HLP1.out]
            have hST := HST.out.fr hf8
            clear HST hf8
            have HST := hid hST
            clear hST
            rw [HDL.out]
            go_wp2_with (first | fail | still_step | (with_reducible refine wpStill_nil ?_) | (with_reducible refine Flow.Both.mk ?_ ?_) | (with_reducible exact True.intro) | (with_reducible refine Flow.same_mk rfl rfl rfl ?_; go_simp; done) | (with_reducible exact Flow.same_un rfl rfl rfl) | (refine Flow.region_still mixed ?hB ?_; (case hB => decide +kernel)))
            go_roundw
            case rel => exact ⟨k + 1, _, s1, steps.dropLast, _, p', by omega, by go_num, by rw [HLV.out, HGL.out], Sts.fr (HST.out.less (L2 := []) (fun e he => by cases he)) (show Fr (fun _ => False) w8 _ by (repeat' (first | with_reducible exact Fr.refl _ _ | with_reducible apply Fr.alloc | with_reducible apply Fr.drew | with_reducible apply Fr.drewN | (with_reducible refine Fr.setCell ?_ ?_ _)))), HF1.out, HLP1.out, RowS.fr (row_drop (RowS.ofL HST.out (fun e he => List.mem_cons_of_mem _ (List.mem_append.2 (.inl he))) HL0.out HLO.out) HSL.out) (show Fr (fun _ => False) w8 _ by (repeat' (first | with_reducible exact Fr.refl _ _ | with_reducible apply Fr.alloc | with_reducible apply Fr.drew | with_reducible apply Fr.drewN | (with_reducible refine Fr.setCell ?_ ?_ _))))⟩
            case measure => simp [intOf]; omega
          · have he0 : (x % 4 == 0) = false := by simpa using h0
            by_cases h1 : x % 4 = 1
            · have he1 : (x % 4 == 1) = true := by simpa using h1
              clear h0 h1
              by_cases hp : p = 0
              · have hp2 : (p == 0) = true := by simpa using hp
                by_cases hnw : now < N
                · skip
                  obtain ⟨⟨s1, ⟨kk, kt, kw, kn⟩, is1⟩, hres⟩ : ∃ r, r = s.doIt 2 0 := ⟨_, rfl⟩
                  have hlb := loop_turn HF.out.ok HLP.out
                  rw [← hres] at hlb
                  have hfit1 : Fits s1 (k + 1) := by have := HF.out.doIt 2 0; rw [← hres] at this; exact this
                  have HRES := hid hres
                  have HF1 := hid hfit1
                  obtain ⟨b1, b2, b3⟩ := hlb
                  dsimp only at b1 b2 b3
                  clear hres hfit1
                  rw [decide_eq_true ⟨hp, hnw⟩] at b1
                  subst b1
                  have HLP1 := hid (b2 rfl)
                  obtain ⟨Q, hQe⟩ : ∃ Q : Nat → Prop, Q = (fun k => ∃ e ∈ L, k = e.1) := ⟨_, rfl⟩
                  have hoq := HLO.out
                  rw [← hQe] at hoq
                  have HOQ := hid hoq
                  have HQE := hid hQe
                  have h64 : M + 1 + 1 ≤ 65 := by
                    have h2 := count_le HF.out.ok 0
                    have h3 := HF.out.ok.win
                    have h4 := HSL.out
                    rw [hcnt] at h2
                    omega
                  clear b2 b3 hp hoq hQe
                  go_wp2_with (first | fail | still_step | (with_reducible refine wpStill_nil ?_) | (with_reducible refine Flow.Both.mk ?_ ?_) | (with_reducible exact True.intro) | (with_reducible refine Flow.same_mk rfl rfl rfl ?_; go_simp; done) | (with_reducible exact Flow.same_un rfl rfl rfl) | (refine Flow.region_still mixed ?hB ?_; (case hB => decide +kernel)))
                  go_at_call 13
                  refine Calls.named fun wc hwc => ?_
                  have hST := Sts.fr HST.out (show Fr (fun _ => False) w4 wc by rw [hwc]; (repeat' (first | with_reducible exact Fr.refl _ _ | with_reducible apply Fr.alloc | with_reducible apply Fr.drew | with_reducible apply Fr.drewN | (with_reducible refine Fr.setCell ?_ ?_ _))))
                  clear HST hwc
                  have HST := hid hST
                  clear hST
                  have hdi := do_is SB _ s 2 0 wc HST.out.sr HF.out.ok (HF.out.room (by omega)) HF.out.mem
                  rw [← HRES.out] at hdi
                  refine hdi.mono ?_
                  clear hdi
                  rintro e w6 ⟨rfl, R6, hm6, hv6⟩
                  have hST := HST.out.mv hm6 hv6
                  clear hm6 hv6 HST
                  have HST := hid hST
                  clear hST c0
                  dsimp only [leakV]
                  go_wp2_with (first | ((with_reducible apply wpList_allocA (ty := 37) #[.int .i64 0, .int .i64 0, .int .i64 0, .int .i64 0]); (case zai => exact zLK); (case zac => rfl); intro wA hbA hfA hsA; have HBA := hid hbA; have HFA := hid hfA; clear hbA hfA hsA) | ((with_reducible apply wpList_storeA (b := w6.heap.size) (C := #[.int .i64 0, .int .i64 0, .int .i64 0, .int .i64 0]) (cells := #[.int .i64 (kk), .int .i64 (kt), .int .i64 (kw), .int .i64 (kn)]) (T := 37)); (case zsx => rfl); (case zsy => rfl); (case zsn => rfl); (case zsi => exact szLK); (case zs1 => rfl); (case zsb => exact HBA.out); intro wS6 hbS hfS hsS; have hST := Sts.new HST.out (fr_made HFA.out hfS (Nat.le_refl _)) hbS (Nat.le_refl _); clear HST HBA HFA hbS hfS hsS; have HST := hid hST; clear hST) | (at_builtin; refine wpList_append_Own _ rfl (.tmp 124) (.tmp 126) 60 rfl 3 i0 (.int .i64 0) 1 8 Try.underlying60 hi0 hz0 hz1 hz2 rfl (by decide) Q (fun _ => True) _ _ rc (ints steps) rfl ?own (some ⟨wS6.heap.size, 0, none⟩) 1 1 (ints [now]) rfl ?vw ?one ?b1 ?b2 ?grow) | still_step | (with_reducible refine wpStill_nil ?_) | (with_reducible refine Flow.Both.mk ?_ ?_) | (with_reducible exact True.intro) | (with_reducible refine Flow.same_mk rfl rfl rfl ?_; go_simp; done) | (with_reducible exact Flow.same_un rfl rfl rfl) | (refine Flow.region_still mixed ?hB ?_; (case hB => decide +kernel)))
                  case own => exact (HOQ.out wS6 (fun e he => (HST.out.keep e (List.mem_cons_of_mem _ (List.mem_append.2 (.inl he)))).1)).fr (S := fun _ => False) (by (repeat' (first | with_reducible exact Fr.refl _ _ | with_reducible apply Fr.alloc | with_reducible apply Fr.drew | with_reducible apply Fr.drewN | (with_reducible refine Fr.setCell ?_ ?_ _)))) (fun _ _ h => h)
                  case vw =>
                    have key : ∀ W : World, Blk W wS6.heap.size #[.int .i64 now] 3 → Vw W 1 (fun _ => True) (some ⟨wS6.heap.size, 0, none⟩) 1 (ints [now]) := fun W hb => Vw.of_blk (sz := 1) (n := 1) (R := fun _ => True) hb trivial rfl
                    exact key _ (by (repeat (with_reducible apply Blk.drew)); exact Blk.new _ _ _)
                  case one => exact ints_one _
                  (try (case b1 => unfold maxLen; omega))
                  (try (case b2 => omega))
                  case grow =>
                    intro ao' cap' w7 ho7 hf7
                    have hQ : ∀ z, Q z → ¬ R6 z ∧ w.heap.size ≤ z ∧ z < wS6.heap.size := fun z hz => by
                      rw [HQE.out] at hz
                      obtain ⟨e, he, rfl⟩ := hz
                      have hk := HST.out.keep e (List.mem_cons_of_mem _ (List.mem_append.2 (.inl he)))
                      exact ⟨hk.2, HL0.out e he, hk.1.lt⟩
                    have hfb : Fr (fun _ => False) wS6 _ := (Fr.refl (fun _ => False) wS6).alloc (.cells #[.int .i64 now] 3)
                    have hSTb := (HST.out.less (L2 := []) (fun e he => by cases he)).fr hfb
                    have hrow7 : RowS w w7 R6 3 1 (.slice ao' (M + 1 + 1) cap') (M + 1 + 1) (ints (steps ++ [now])) := by
                      rw [ints_append]
                      exact RowS.grown (w := wS6.alloc (.cells #[.int .i64 now] 3)) hSTb.sr.lt hSTb.fr0 (by simpa using ho7) hf7 (fun z hz => ⟨(hQ z hz).1, (hQ z hz).2.1, by have := (hQ z hz).2.2; simp; omega⟩)
                    obtain ⟨L7, ra7, rc7, he7, hLa7, hL07, hLo7⟩ := hrow7.toL
                    simp only [Value.slice.injEq, true_and] at he7
                    obtain ⟨rfl, rfl⟩ := he7
                    have hST := (Sts.own hSTb hf7 (fun z hz => ⟨(hQ z hz).1, (hQ z hz).2.1⟩) (fun e he => by cases he)).add hLa7
                    clear HST
                    have HST := hid hST
                    have HL7 := hid hL07
                    have HLO7 := hid hLo7
                    have hlen : (steps ++ [now]).length = M + 1 + 1 := by rw [List.length_append, ← HSL.out]; rfl
                    have HLEN := hid hlen
                    clear hST hSTb hfb hQ ho7 hf7 hrow7 hLa7 hL07 hLo7 hlen
                    go_wp2_with (first | fail | still_step | (with_reducible refine wpStill_nil ?_) | (with_reducible refine Flow.Both.mk ?_ ?_) | (with_reducible exact True.intro) | (with_reducible refine Flow.same_mk rfl rfl rfl ?_; go_simp; done) | (with_reducible exact Flow.same_un rfl rfl rfl) | (refine Flow.region_still mixed ?hB ?_; (case hB => decide +kernel)))
                    go_at_call 17
                    refine Calls.named fun wc hwc => ?_
                    have hST := Sts.fr HST.out (show Fr (fun _ => False) w7 wc by rw [hwc]; (repeat' (first | with_reducible exact Fr.refl _ _ | with_reducible apply Fr.alloc | with_reducible apply Fr.drew | with_reducible apply Fr.drewN | (with_reducible refine Fr.setCell ?_ ?_ _))))
                    clear HST hwc
                    have HST := hid hST
                    clear hST
                    refine (count_is SB _ s1 0 wc HST.out.sr).mono ?_
                    rintro e w8 ⟨rfl, hf8⟩
                    rw [loop_count HLP1.out]
                    have hST := HST.out.fr hf8
                    clear HST hf8
                    have HST := hid hST
                    clear hST
                    rw [HLEN.out]
                    go_wp2_with (first | fail | still_step | (with_reducible refine wpStill_nil ?_) | (with_reducible refine Flow.Both.mk ?_ ?_) | (with_reducible exact True.intro) | (with_reducible refine Flow.same_mk rfl rfl rfl ?_; go_simp; done) | (with_reducible exact Flow.same_un rfl rfl rfl) | (refine Flow.region_still mixed ?hB ?_; (case hB => decide +kernel)))
                    go_roundw
                    case rel => exact ⟨k + 1, _, s1, steps ++ [now], _, 1, by omega, by go_num, by go_num, Sts.fr (HST.out.less (L2 := []) (fun e he => by cases he)) (show Fr (fun _ => False) w8 _ by (repeat' (first | with_reducible exact Fr.refl _ _ | with_reducible apply Fr.alloc | with_reducible apply Fr.drew | with_reducible apply Fr.drewN | (with_reducible refine Fr.setCell ?_ ?_ _)))), HF1.out, HLP1.out, RowS.fr (by rw [HLEN.out]; exact RowS.ofL HST.out (fun e he => List.mem_append.2 (.inl he)) HL7.out HLO7.out) (show Fr (fun _ => False) w8 _ by (repeat' (first | with_reducible exact Fr.refl _ _ | with_reducible apply Fr.alloc | with_reducible apply Fr.drew | with_reducible apply Fr.drewN | (with_reducible refine Fr.setCell ?_ ?_ _))))⟩
                    case measure => simp [intOf]; omega
                · skip
                  obtain ⟨⟨s1, ⟨kk, kt, kw, kn⟩, is1⟩, hres⟩ : ∃ r, r = s.doIt 2 0 := ⟨_, rfl⟩
                  have hlb := loop_turn HF.out.ok HLP.out
                  rw [← hres] at hlb
                  have hfit1 : Fits s1 (k + 1) := by have := HF.out.doIt 2 0; rw [← hres] at this; exact this
                  have HRES := hid hres
                  have HF1 := hid hfit1
                  obtain ⟨b1, b2, b3⟩ := hlb
                  dsimp only at b1 b2 b3
                  clear hres hfit1
                  rw [decide_eq_false (fun h => hnw h.2)] at b1
                  clear hp
                  subst b1
                  have he1 := b3 rfl
                  have HLP1 := hid (show LoopS s1 N steps now p from by rw [he1]; exact HLP.out)
                  clear he1
                  clear b2 b3
                  go_wp2_with (first | fail | still_step | (with_reducible refine wpStill_nil ?_) | (with_reducible refine Flow.Both.mk ?_ ?_) | (with_reducible exact True.intro) | (with_reducible refine Flow.same_mk rfl rfl rfl ?_; go_simp; done) | (with_reducible exact Flow.same_un rfl rfl rfl) | (refine Flow.region_still mixed ?hB ?_; (case hB => decide +kernel)))
                  go_at_call 13
                  refine Calls.named fun wc hwc => ?_
                  have hST := Sts.fr HST.out (show Fr (fun _ => False) w4 wc by rw [hwc]; (repeat' (first | with_reducible exact Fr.refl _ _ | with_reducible apply Fr.alloc | with_reducible apply Fr.drew | with_reducible apply Fr.drewN | (with_reducible refine Fr.setCell ?_ ?_ _))))
                  clear HST hwc
                  have HST := hid hST
                  clear hST
                  have hdi := do_is SB _ s 2 0 wc HST.out.sr HF.out.ok (HF.out.room (by omega)) HF.out.mem
                  rw [← HRES.out] at hdi
                  refine hdi.mono ?_
                  clear hdi
                  rintro e w6 ⟨rfl, R6, hm6, hv6⟩
                  have hST := HST.out.mv hm6 hv6
                  clear hm6 hv6 HST
                  have HST := hid hST
                  clear hST c0
                  dsimp only [leakV]
                  go_wp2_with (first | ((with_reducible apply wpList_allocA (ty := 37) #[.int .i64 0, .int .i64 0, .int .i64 0, .int .i64 0]); (case zai => exact zLK); (case zac => rfl); intro wA hbA hfA hsA; have HBA := hid hbA; have HFA := hid hfA; clear hbA hfA hsA) | ((with_reducible apply wpList_storeA (b := w6.heap.size) (C := #[.int .i64 0, .int .i64 0, .int .i64 0, .int .i64 0]) (cells := #[.int .i64 (kk), .int .i64 (kt), .int .i64 (kw), .int .i64 (kn)]) (T := 37)); (case zsx => rfl); (case zsy => rfl); (case zsn => rfl); (case zsi => exact szLK); (case zs1 => rfl); (case zsb => exact HBA.out); intro wS6 hbS hfS hsS; have hST := Sts.new HST.out (fr_made HFA.out hfS (Nat.le_refl _)) hbS (Nat.le_refl _); clear HST HBA HFA hbS hfS hsS; have HST := hid hST; clear hST) | fail | still_step | (with_reducible refine wpStill_nil ?_) | (with_reducible refine Flow.Both.mk ?_ ?_) | (with_reducible exact True.intro) | (with_reducible refine Flow.same_mk rfl rfl rfl ?_; go_simp; done) | (with_reducible exact Flow.same_un rfl rfl rfl) | (refine Flow.region_still mixed ?hB ?_; (case hB => decide +kernel)))
                  go_at_call 17
                  refine Calls.named fun wc hwc => ?_
                  have hST := Sts.fr HST.out (show Fr (fun _ => False) wS6 wc by rw [hwc]; (repeat' (first | with_reducible exact Fr.refl _ _ | with_reducible apply Fr.alloc | with_reducible apply Fr.drew | with_reducible apply Fr.drewN | (with_reducible refine Fr.setCell ?_ ?_ _))))
                  clear HST hwc
                  have HST := hid hST
                  clear hST
                  refine (count_is SB _ s1 0 wc HST.out.sr).mono ?_
                  rintro e w8 ⟨rfl, hf8⟩
                  rw [loop_count HLP1.out]
                  have hST := HST.out.fr hf8
                  clear HST hf8
                  have HST := hid hST
                  clear hST
                  rw [← HSL.out]
                  go_wp2_with (first | fail | still_step | (with_reducible refine wpStill_nil ?_) | (with_reducible refine Flow.Both.mk ?_ ?_) | (with_reducible exact True.intro) | (with_reducible refine Flow.same_mk rfl rfl rfl ?_; go_simp; done) | (with_reducible exact Flow.same_un rfl rfl rfl) | (refine Flow.region_still mixed ?hB ?_; (case hB => decide +kernel)))
                  go_roundw
                  case rel => exact ⟨k + 1, _, s1, steps, _, p, by omega, by go_num, rfl, Sts.fr (HST.out.less (L2 := []) (fun e he => by cases he)) (show Fr (fun _ => False) w8 _ by (repeat' (first | with_reducible exact Fr.refl _ _ | with_reducible apply Fr.alloc | with_reducible apply Fr.drew | with_reducible apply Fr.drewN | (with_reducible refine Fr.setCell ?_ ?_ _)))), HF1.out, HLP1.out, RowS.fr (by rw [← HSL.out]; exact RowS.ofL HST.out (fun e he => List.mem_cons_of_mem _ (List.mem_append.2 (.inl he))) HL0.out HLO.out) (show Fr (fun _ => False) w8 _ by (repeat' (first | with_reducible exact Fr.refl _ _ | with_reducible apply Fr.alloc | with_reducible apply Fr.drew | with_reducible apply Fr.drewN | (with_reducible refine Fr.setCell ?_ ?_ _))))⟩
                  case measure => simp [intOf]; omega
              · have hp2 : (p == 0) = false := by simpa using hp
                obtain ⟨⟨s1, ⟨kk, kt, kw, kn⟩, is1⟩, hres⟩ : ∃ r, r = s.doIt 2 0 := ⟨_, rfl⟩
                have hlb := loop_turn HF.out.ok HLP.out
                rw [← hres] at hlb
                have hfit1 : Fits s1 (k + 1) := by have := HF.out.doIt 2 0; rw [← hres] at this; exact this
                have HRES := hid hres
                have HF1 := hid hfit1
                obtain ⟨b1, b2, b3⟩ := hlb
                dsimp only at b1 b2 b3
                clear hres hfit1
                rw [decide_eq_false (fun h => hp h.1)] at b1
                clear hp
                subst b1
                have he1 := b3 rfl
                have HLP1 := hid (show LoopS s1 N steps now p from by rw [he1]; exact HLP.out)
                clear he1
                clear b2 b3
                go_wp2_with (first | fail | still_step | (with_reducible refine wpStill_nil ?_) | (with_reducible refine Flow.Both.mk ?_ ?_) | (with_reducible exact True.intro) | (with_reducible refine Flow.same_mk rfl rfl rfl ?_; go_simp; done) | (with_reducible exact Flow.same_un rfl rfl rfl) | (refine Flow.region_still mixed ?hB ?_; (case hB => decide +kernel)))
                go_at_call 13
                refine Calls.named fun wc hwc => ?_
                have hST := Sts.fr HST.out (show Fr (fun _ => False) w4 wc by rw [hwc]; (repeat' (first | with_reducible exact Fr.refl _ _ | with_reducible apply Fr.alloc | with_reducible apply Fr.drew | with_reducible apply Fr.drewN | (with_reducible refine Fr.setCell ?_ ?_ _))))
                clear HST hwc
                have HST := hid hST
                clear hST
                have hdi := do_is SB _ s 2 0 wc HST.out.sr HF.out.ok (HF.out.room (by omega)) HF.out.mem
                rw [← HRES.out] at hdi
                refine hdi.mono ?_
                clear hdi
                rintro e w6 ⟨rfl, R6, hm6, hv6⟩
                have hST := HST.out.mv hm6 hv6
                clear hm6 hv6 HST
                have HST := hid hST
                clear hST c0
                dsimp only [leakV]
                go_wp2_with (first | ((with_reducible apply wpList_allocA (ty := 37) #[.int .i64 0, .int .i64 0, .int .i64 0, .int .i64 0]); (case zai => exact zLK); (case zac => rfl); intro wA hbA hfA hsA; have HBA := hid hbA; have HFA := hid hfA; clear hbA hfA hsA) | ((with_reducible apply wpList_storeA (b := w6.heap.size) (C := #[.int .i64 0, .int .i64 0, .int .i64 0, .int .i64 0]) (cells := #[.int .i64 (kk), .int .i64 (kt), .int .i64 (kw), .int .i64 (kn)]) (T := 37)); (case zsx => rfl); (case zsy => rfl); (case zsn => rfl); (case zsi => exact szLK); (case zs1 => rfl); (case zsb => exact HBA.out); intro wS6 hbS hfS hsS; have hST := Sts.new HST.out (fr_made HFA.out hfS (Nat.le_refl _)) hbS (Nat.le_refl _); clear HST HBA HFA hbS hfS hsS; have HST := hid hST; clear hST) | fail | still_step | (with_reducible refine wpStill_nil ?_) | (with_reducible refine Flow.Both.mk ?_ ?_) | (with_reducible exact True.intro) | (with_reducible refine Flow.same_mk rfl rfl rfl ?_; go_simp; done) | (with_reducible exact Flow.same_un rfl rfl rfl) | (refine Flow.region_still mixed ?hB ?_; (case hB => decide +kernel)))
                go_at_call 17
                refine Calls.named fun wc hwc => ?_
                have hST := Sts.fr HST.out (show Fr (fun _ => False) wS6 wc by rw [hwc]; (repeat' (first | with_reducible exact Fr.refl _ _ | with_reducible apply Fr.alloc | with_reducible apply Fr.drew | with_reducible apply Fr.drewN | (with_reducible refine Fr.setCell ?_ ?_ _))))
                clear HST hwc
                have HST := hid hST
                clear hST
                refine (count_is SB _ s1 0 wc HST.out.sr).mono ?_
                rintro e w8 ⟨rfl, hf8⟩
                rw [loop_count HLP1.out]
                have hST := HST.out.fr hf8
                clear HST hf8
                have HST := hid hST
                clear hST
                rw [← HSL.out]
                go_wp2_with (first | fail | still_step | (with_reducible refine wpStill_nil ?_) | (with_reducible refine Flow.Both.mk ?_ ?_) | (with_reducible exact True.intro) | (with_reducible refine Flow.same_mk rfl rfl rfl ?_; go_simp; done) | (with_reducible exact Flow.same_un rfl rfl rfl) | (refine Flow.region_still mixed ?hB ?_; (case hB => decide +kernel)))
                go_roundw
                case rel => exact ⟨k + 1, _, s1, steps, _, p, by omega, by go_num, rfl, Sts.fr (HST.out.less (L2 := []) (fun e he => by cases he)) (show Fr (fun _ => False) w8 _ by (repeat' (first | with_reducible exact Fr.refl _ _ | with_reducible apply Fr.alloc | with_reducible apply Fr.drew | with_reducible apply Fr.drewN | (with_reducible refine Fr.setCell ?_ ?_ _)))), HF1.out, HLP1.out, RowS.fr (by rw [← HSL.out]; exact RowS.ofL HST.out (fun e he => List.mem_cons_of_mem _ (List.mem_append.2 (.inl he))) HL0.out HLO.out) (show Fr (fun _ => False) w8 _ by (repeat' (first | with_reducible exact Fr.refl _ _ | with_reducible apply Fr.alloc | with_reducible apply Fr.drew | with_reducible apply Fr.drewN | (with_reducible refine Fr.setCell ?_ ?_ _))))⟩
                case measure => simp [intOf]; omega
            · have he1 : (x % 4 == 1) = false := by simpa using h1
              clear h0 h1
              have hsne : steps ≠ [] := fun e => by have := HSL.out; rw [e] at this; simp at this
              by_cases hnw : now < N
              · skip
                obtain ⟨⟨s1, ⟨kk, kt, kw, kn⟩, is1⟩, hres⟩ : ∃ r, r = s.doIt 0 0 := ⟨_, rfl⟩
                have hlb := loop_step HF.out.ok HLP.out
                rw [← hres] at hlb
                have hfit1 : Fits s1 (k + 1) := by have := HF.out.doIt 0 0; rw [← hres] at this; exact this
                have HRES := hid hres
                have HF1 := hid hfit1
                obtain ⟨b1, b2, b3⟩ := hlb
                dsimp only at b1 b2 b3
                clear hres hfit1
                rw [decide_eq_true (Or.inr hnw)] at b1
                subst b1
                have hlp1 := b2 rfl
                rw [if_neg hsne] at hlp1
                have HLP1 := hid hlp1
                clear b2 b3 hlp1 hsne
                go_wp2_with (first | fail | still_step | (with_reducible refine wpStill_nil ?_) | (with_reducible refine Flow.Both.mk ?_ ?_) | (with_reducible exact True.intro) | (with_reducible refine Flow.same_mk rfl rfl rfl ?_; go_simp; done) | (with_reducible exact Flow.same_un rfl rfl rfl) | (refine Flow.region_still mixed ?hB ?_; (case hB => decide +kernel)))
                go_at_call 13
                refine Calls.named fun wc hwc => ?_
                have hST := Sts.fr HST.out (show Fr (fun _ => False) w4 wc by rw [hwc]; (repeat' (first | with_reducible exact Fr.refl _ _ | with_reducible apply Fr.alloc | with_reducible apply Fr.drew | with_reducible apply Fr.drewN | (with_reducible refine Fr.setCell ?_ ?_ _))))
                clear HST hwc
                have HST := hid hST
                clear hST
                have hdi := do_is SB _ s 0 0 wc HST.out.sr HF.out.ok (HF.out.room (by omega)) HF.out.mem
                rw [← HRES.out] at hdi
                refine hdi.mono ?_
                clear hdi
                rintro e w6 ⟨rfl, R6, hm6, hv6⟩
                have hST := HST.out.mv hm6 hv6
                clear hm6 hv6 HST
                have HST := hid hST
                clear hST c0
                dsimp only [leakV]
                go_wp2_with (first | ((with_reducible apply wpList_allocA (ty := 37) #[.int .i64 0, .int .i64 0, .int .i64 0, .int .i64 0]); (case zai => exact zLK); (case zac => rfl); intro wA hbA hfA hsA; have HBA := hid hbA; have HFA := hid hfA; clear hbA hfA hsA) | ((with_reducible apply wpList_storeA (b := w6.heap.size) (C := #[.int .i64 0, .int .i64 0, .int .i64 0, .int .i64 0]) (cells := #[.int .i64 (kk), .int .i64 (kt), .int .i64 (kw), .int .i64 (kn)]) (T := 37)); (case zsx => rfl); (case zsy => rfl); (case zsn => rfl); (case zsi => exact szLK); (case zs1 => rfl); (case zsb => exact HBA.out); intro wS6 hbS hfS hsS; have hST := Sts.new HST.out (fr_made HFA.out hfS (Nat.le_refl _)) hbS (Nat.le_refl _); clear HST HBA HFA hbS hfS hsS; have HST := hid hST; clear hST) | fail | still_step | (with_reducible refine wpStill_nil ?_) | (with_reducible refine Flow.Both.mk ?_ ?_) | (with_reducible exact True.intro) | (with_reducible refine Flow.same_mk rfl rfl rfl ?_; go_simp; done) | (with_reducible exact Flow.same_un rfl rfl rfl) | (refine Flow.region_still mixed ?hB ?_; (case hB => decide +kernel)))
                go_at_call 17
                refine Calls.named fun wc hwc => ?_
                have hST := Sts.fr HST.out (show Fr (fun _ => False) wS6 wc by rw [hwc]; (repeat' (first | with_reducible exact Fr.refl _ _ | with_reducible apply Fr.alloc | with_reducible apply Fr.drew | with_reducible apply Fr.drewN | (with_reducible refine Fr.setCell ?_ ?_ _))))
                clear HST hwc
                have HST := hid hST
                clear hST
                refine (count_is SB _ s1 0 wc HST.out.sr).mono ?_
                rintro e w8 ⟨rfl, hf8⟩
                rw [loop_count HLP1.out]
                have hST := HST.out.fr hf8
                clear HST hf8
                have HST := hid hST
                clear hST
                rw [← HSL.out]
                go_wp2_with (first | fail | still_step | (with_reducible refine wpStill_nil ?_) | (with_reducible refine Flow.Both.mk ?_ ?_) | (with_reducible exact True.intro) | (with_reducible refine Flow.same_mk rfl rfl rfl ?_; go_simp; done) | (with_reducible exact Flow.same_un rfl rfl rfl) | (refine Flow.region_still mixed ?hB ?_; (case hB => decide +kernel)))
                go_roundw
                case rel => exact ⟨k + 1, _, s1, steps, _, 0, by omega, by go_num, by go_num, Sts.fr (HST.out.less (L2 := []) (fun e he => by cases he)) (show Fr (fun _ => False) w8 _ by (repeat' (first | with_reducible exact Fr.refl _ _ | with_reducible apply Fr.alloc | with_reducible apply Fr.drew | with_reducible apply Fr.drewN | (with_reducible refine Fr.setCell ?_ ?_ _)))), HF1.out, HLP1.out, RowS.fr (by rw [← HSL.out]; exact RowS.ofL HST.out (fun e he => List.mem_cons_of_mem _ (List.mem_append.2 (.inl he))) HL0.out HLO.out) (show Fr (fun _ => False) w8 _ by (repeat' (first | with_reducible exact Fr.refl _ _ | with_reducible apply Fr.alloc | with_reducible apply Fr.drew | with_reducible apply Fr.drewN | (with_reducible refine Fr.setCell ?_ ?_ _))))⟩
                case measure => simp [intOf]; omega
              · skip
                obtain ⟨⟨s1, ⟨kk, kt, kw, kn⟩, is1⟩, hres⟩ : ∃ r, r = s.doIt 0 0 := ⟨_, rfl⟩
                have hlb := loop_step HF.out.ok HLP.out
                rw [← hres] at hlb
                have hfit1 : Fits s1 (k + 1) := by have := HF.out.doIt 0 0; rw [← hres] at this; exact this
                have HRES := hid hres
                have HF1 := hid hfit1
                obtain ⟨b1, b2, b3⟩ := hlb
                dsimp only at b1 b2 b3
                clear hres hfit1
                rw [decide_eq_false (fun h => h.elim hsne hnw)] at b1
                subst b1
                have he1 := b3 rfl
                have HLP1 := hid (show LoopS s1 N steps now p from by rw [he1]; exact HLP.out)
                clear he1
                clear b2 b3 hsne
                go_wp2_with (first | fail | still_step | (with_reducible refine wpStill_nil ?_) | (with_reducible refine Flow.Both.mk ?_ ?_) | (with_reducible exact True.intro) | (with_reducible refine Flow.same_mk rfl rfl rfl ?_; go_simp; done) | (with_reducible exact Flow.same_un rfl rfl rfl) | (refine Flow.region_still mixed ?hB ?_; (case hB => decide +kernel)))
                go_at_call 13
                refine Calls.named fun wc hwc => ?_
                have hST := Sts.fr HST.out (show Fr (fun _ => False) w4 wc by rw [hwc]; (repeat' (first | with_reducible exact Fr.refl _ _ | with_reducible apply Fr.alloc | with_reducible apply Fr.drew | with_reducible apply Fr.drewN | (with_reducible refine Fr.setCell ?_ ?_ _))))
                clear HST hwc
                have HST := hid hST
                clear hST
                have hdi := do_is SB _ s 0 0 wc HST.out.sr HF.out.ok (HF.out.room (by omega)) HF.out.mem
                rw [← HRES.out] at hdi
                refine hdi.mono ?_
                clear hdi
                rintro e w6 ⟨rfl, R6, hm6, hv6⟩
                have hST := HST.out.mv hm6 hv6
                clear hm6 hv6 HST
                have HST := hid hST
                clear hST c0
                dsimp only [leakV]
                go_wp2_with (first | ((with_reducible apply wpList_allocA (ty := 37) #[.int .i64 0, .int .i64 0, .int .i64 0, .int .i64 0]); (case zai => exact zLK); (case zac => rfl); intro wA hbA hfA hsA; have HBA := hid hbA; have HFA := hid hfA; clear hbA hfA hsA) | ((with_reducible apply wpList_storeA (b := w6.heap.size) (C := #[.int .i64 0, .int .i64 0, .int .i64 0, .int .i64 0]) (cells := #[.int .i64 (kk), .int .i64 (kt), .int .i64 (kw), .int .i64 (kn)]) (T := 37)); (case zsx => rfl); (case zsy => rfl); (case zsn => rfl); (case zsi => exact szLK); (case zs1 => rfl); (case zsb => exact HBA.out); intro wS6 hbS hfS hsS; have hST := Sts.new HST.out (fr_made HFA.out hfS (Nat.le_refl _)) hbS (Nat.le_refl _); clear HST HBA HFA hbS hfS hsS; have HST := hid hST; clear hST) | fail | still_step | (with_reducible refine wpStill_nil ?_) | (with_reducible refine Flow.Both.mk ?_ ?_) | (with_reducible exact True.intro) | (with_reducible refine Flow.same_mk rfl rfl rfl ?_; go_simp; done) | (with_reducible exact Flow.same_un rfl rfl rfl) | (refine Flow.region_still mixed ?hB ?_; (case hB => decide +kernel)))
                go_at_call 17
                refine Calls.named fun wc hwc => ?_
                have hST := Sts.fr HST.out (show Fr (fun _ => False) wS6 wc by rw [hwc]; (repeat' (first | with_reducible exact Fr.refl _ _ | with_reducible apply Fr.alloc | with_reducible apply Fr.drew | with_reducible apply Fr.drewN | (with_reducible refine Fr.setCell ?_ ?_ _))))
                clear HST hwc
                have HST := hid hST
                clear hST
                refine (count_is SB _ s1 0 wc HST.out.sr).mono ?_
                rintro e w8 ⟨rfl, hf8⟩
                rw [loop_count HLP1.out]
                have hST := HST.out.fr hf8
                clear HST hf8
                have HST := hid hST
                clear hST
                rw [← HSL.out]
                go_wp2_with (first | fail | still_step | (with_reducible refine wpStill_nil ?_) | (with_reducible refine Flow.Both.mk ?_ ?_) | (with_reducible exact True.intro) | (with_reducible refine Flow.same_mk rfl rfl rfl ?_; go_simp; done) | (with_reducible exact Flow.same_un rfl rfl rfl) | (refine Flow.region_still mixed ?hB ?_; (case hB => decide +kernel)))
                go_roundw
                case rel => exact ⟨k + 1, _, s1, steps, _, p, by omega, by go_num, rfl, Sts.fr (HST.out.less (L2 := []) (fun e he => by cases he)) (show Fr (fun _ => False) w8 _ by (repeat' (first | with_reducible exact Fr.refl _ _ | with_reducible apply Fr.alloc | with_reducible apply Fr.drew | with_reducible apply Fr.drewN | (with_reducible refine Fr.setCell ?_ ?_ _)))), HF1.out, HLP1.out, RowS.fr (by rw [← HSL.out]; exact RowS.ofL HST.out (fun e he => List.mem_cons_of_mem _ (List.mem_append.2 (.inl he))) HL0.out HLO.out) (show Fr (fun _ => False) w8 _ by (repeat' (first | with_reducible exact Fr.refl _ _ | with_reducible apply Fr.alloc | with_reducible apply Fr.drew | with_reducible apply Fr.drewN | (with_reducible refine Fr.setCell ?_ ?_ _))))⟩
                case measure => simp [intOf]; omega
        · obtain rfl : SL = 0 := by omega
          have HSE := hid (show steps = [] from List.eq_nil_of_length_eq_zero HSL.out.symm)
          go_wp2_with (first | fail | still_step | (with_reducible refine wpStill_nil ?_) | (with_reducible refine Flow.Both.mk ?_ ?_) | (with_reducible exact True.intro) | (with_reducible refine Flow.same_mk rfl rfl rfl ?_; go_simp; done) | (with_reducible exact Flow.same_un rfl rfl rfl) | (refine Flow.region_still mixed ?hB ?_; (case hB => decide +kernel)))
          go_at_call 14
          refine Calls.named fun wc hwc => ?_
          have hST := Sts.fr HST.out (show Fr (fun _ => False) wr wc by rw [hwc]; (repeat' (first | with_reducible exact Fr.refl _ _ | with_reducible apply Fr.alloc | with_reducible apply Fr.drew | with_reducible apply Fr.drewN | (with_reducible refine Fr.setCell ?_ ?_ _))))
          clear HST hwc
          have HST := hid hST
          clear hST
          have hti := sthread_is SB _ s 0 wc HST.out.sr
          rw [lp2] at hti
          refine hti.mono ?_
          rintro e w4 ⟨ta, tc, rfl, ho4, hf4⟩
          clear ho4 hti
          have hST := HST.out.fr hf4
          clear HST hf4
          have HST := hid hST
          clear hST
          clear c0
          have c0 := HCELL.out _ HST.out.fr0
          obtain ⟨vl, hvl⟩ : ∃ vl, vl = (standV ((some (loopTh p)).getD noTh) ta tc).toArray := ⟨_, rfl⟩
          have hfp : Sem.run Try.prog (Instr.field 45 (.agg vl) 0) w4 = .ok (.int .i64 p) w4 := by rw [hvl]; exact field_place (loopTh p) ta tc rfl w4
          rw [← hvl]
          clear hvl
          by_cases h0 : x % 4 = 0
          · have he0 : (x % 4 == 0) = true := by simpa using h0
            clear h0
            obtain ⟨⟨s1, ⟨kk, kt, kw, kn⟩, is1⟩, hres⟩ : ∃ r, r = s.doIt 4 0 := ⟨_, rfl⟩
            have hlb := loop_back HF.out.ok HLP.out
            rw [← hres] at hlb
            have hfit1 : Fits s1 (k + 1) := by have := HF.out.doIt 4 0; rw [← hres] at this; exact this
            have HRES := hid hres
            have HF1 := hid hfit1
            obtain ⟨b1, b2, b3⟩ := hlb
            dsimp only at b1 b2 b3
            clear hres hfit1
            rw [decide_eq_false (fun h => h HSE.out)] at b1
            subst b1
            have he1 := b3 rfl
            have HLP1 := hid (show LoopS s1 N steps now p from by rw [he1]; exact HLP.out)
            clear he1
            clear b2 b3
            go_wp2_with (first | fail | still_step | (with_reducible refine wpStill_nil ?_) | (with_reducible refine Flow.Both.mk ?_ ?_) | (with_reducible exact True.intro) | (with_reducible refine Flow.same_mk rfl rfl rfl ?_; go_simp; done) | (with_reducible exact Flow.same_un rfl rfl rfl) | (refine Flow.region_still mixed ?hB ?_; (case hB => decide +kernel)))
            go_at_call 13
            refine Calls.named fun wc hwc => ?_
            have hST := Sts.fr HST.out (show Fr (fun _ => False) w4 wc by rw [hwc]; (repeat' (first | with_reducible exact Fr.refl _ _ | with_reducible apply Fr.alloc | with_reducible apply Fr.drew | with_reducible apply Fr.drewN | (with_reducible refine Fr.setCell ?_ ?_ _))))
            clear HST hwc
            have HST := hid hST
            clear hST
            have hdi := do_is SB _ s 4 0 wc HST.out.sr HF.out.ok (HF.out.room (by omega)) HF.out.mem
            rw [← HRES.out] at hdi
            refine hdi.mono ?_
            clear hdi
            rintro e w6 ⟨rfl, R6, hm6, hv6⟩
            have hST := HST.out.mv hm6 hv6
            clear hm6 hv6 HST
            have HST := hid hST
            clear hST c0
            dsimp only [leakV]
            go_wp2_with (first | ((with_reducible apply wpList_allocA (ty := 37) #[.int .i64 0, .int .i64 0, .int .i64 0, .int .i64 0]); (case zai => exact zLK); (case zac => rfl); intro wA hbA hfA hsA; have HBA := hid hbA; have HFA := hid hfA; clear hbA hfA hsA) | ((with_reducible apply wpList_storeA (b := w6.heap.size) (C := #[.int .i64 0, .int .i64 0, .int .i64 0, .int .i64 0]) (cells := #[.int .i64 (kk), .int .i64 (kt), .int .i64 (kw), .int .i64 (kn)]) (T := 37)); (case zsx => rfl); (case zsy => rfl); (case zsn => rfl); (case zsi => exact szLK); (case zs1 => rfl); (case zsb => exact HBA.out); intro wS6 hbS hfS hsS; have hST := Sts.new HST.out (fr_made HFA.out hfS (Nat.le_refl _)) hbS (Nat.le_refl _); clear HST HBA HFA hbS hfS hsS; have HST := hid hST; clear hST) | fail | still_step | (with_reducible refine wpStill_nil ?_) | (with_reducible refine Flow.Both.mk ?_ ?_) | (with_reducible exact True.intro) | (with_reducible refine Flow.same_mk rfl rfl rfl ?_; go_simp; done) | (with_reducible exact Flow.same_un rfl rfl rfl) | (refine Flow.region_still mixed ?hB ?_; (case hB => decide +kernel)))
            go_at_call 17
            refine Calls.named fun wc hwc => ?_
            have hST := Sts.fr HST.out (show Fr (fun _ => False) wS6 wc by rw [hwc]; (repeat' (first | with_reducible exact Fr.refl _ _ | with_reducible apply Fr.alloc | with_reducible apply Fr.drew | with_reducible apply Fr.drewN | (with_reducible refine Fr.setCell ?_ ?_ _))))
            clear HST hwc
            have HST := hid hST
            clear hST
            refine (count_is SB _ s1 0 wc HST.out.sr).mono ?_
            rintro e w8 ⟨rfl, hf8⟩
            rw [loop_count HLP1.out]
            have hST := HST.out.fr hf8
            clear HST hf8
            have HST := hid hST
            clear hST
            rw [← HSL.out]
            go_wp2_with (first | fail | still_step | (with_reducible refine wpStill_nil ?_) | (with_reducible refine Flow.Both.mk ?_ ?_) | (with_reducible exact True.intro) | (with_reducible refine Flow.same_mk rfl rfl rfl ?_; go_simp; done) | (with_reducible exact Flow.same_un rfl rfl rfl) | (refine Flow.region_still mixed ?hB ?_; (case hB => decide +kernel)))
            go_roundw
            case rel => exact ⟨k + 1, _, s1, steps, _, p, by omega, by go_num, rfl, Sts.fr (HST.out.less (L2 := []) (fun e he => by cases he)) (show Fr (fun _ => False) w8 _ by (repeat' (first | with_reducible exact Fr.refl _ _ | with_reducible apply Fr.alloc | with_reducible apply Fr.drew | with_reducible apply Fr.drewN | (with_reducible refine Fr.setCell ?_ ?_ _)))), HF1.out, HLP1.out, RowS.fr (by rw [← HSL.out]; exact RowS.ofL HST.out (fun e he => List.mem_cons_of_mem _ (List.mem_append.2 (.inl he))) HL0.out HLO.out) (show Fr (fun _ => False) w8 _ by (repeat' (first | with_reducible exact Fr.refl _ _ | with_reducible apply Fr.alloc | with_reducible apply Fr.drew | with_reducible apply Fr.drewN | (with_reducible refine Fr.setCell ?_ ?_ _))))⟩
            case measure => simp [intOf]; omega
          · have he0 : (x % 4 == 0) = false := by simpa using h0
            by_cases h1 : x % 4 = 1
            · have he1 : (x % 4 == 1) = true := by simpa using h1
              clear h0 h1
              by_cases hp : p = 0
              · have hp2 : (p == 0) = true := by simpa using hp
                by_cases hnw : now < N
                · skip
                  obtain ⟨⟨s1, ⟨kk, kt, kw, kn⟩, is1⟩, hres⟩ : ∃ r, r = s.doIt 2 0 := ⟨_, rfl⟩
                  have hlb := loop_turn HF.out.ok HLP.out
                  rw [← hres] at hlb
                  have hfit1 : Fits s1 (k + 1) := by have := HF.out.doIt 2 0; rw [← hres] at this; exact this
                  have HRES := hid hres
                  have HF1 := hid hfit1
                  obtain ⟨b1, b2, b3⟩ := hlb
                  dsimp only at b1 b2 b3
                  clear hres hfit1
                  rw [decide_eq_true ⟨hp, hnw⟩] at b1
                  subst b1
                  have HLP1 := hid (b2 rfl)
                  obtain ⟨Q, hQe⟩ : ∃ Q : Nat → Prop, Q = (fun k => ∃ e ∈ L, k = e.1) := ⟨_, rfl⟩
                  have hoq := HLO.out
                  rw [← hQe] at hoq
                  have HOQ := hid hoq
                  have HQE := hid hQe
                  have h64 : 0 + 1 ≤ 65 := by
                    have h2 := count_le HF.out.ok 0
                    have h3 := HF.out.ok.win
                    have h4 := HSL.out
                    rw [hcnt] at h2
                    omega
                  clear b2 b3 hp hoq hQe
                  go_wp2_with (first | fail | still_step | (with_reducible refine wpStill_nil ?_) | (with_reducible refine Flow.Both.mk ?_ ?_) | (with_reducible exact True.intro) | (with_reducible refine Flow.same_mk rfl rfl rfl ?_; go_simp; done) | (with_reducible exact Flow.same_un rfl rfl rfl) | (refine Flow.region_still mixed ?hB ?_; (case hB => decide +kernel)))
                  go_at_call 13
                  refine Calls.named fun wc hwc => ?_
                  have hST := Sts.fr HST.out (show Fr (fun _ => False) w4 wc by rw [hwc]; (repeat' (first | with_reducible exact Fr.refl _ _ | with_reducible apply Fr.alloc | with_reducible apply Fr.drew | with_reducible apply Fr.drewN | (with_reducible refine Fr.setCell ?_ ?_ _))))
                  clear HST hwc
                  have HST := hid hST
                  clear hST
                  have hdi := do_is SB _ s 2 0 wc HST.out.sr HF.out.ok (HF.out.room (by omega)) HF.out.mem
                  rw [← HRES.out] at hdi
                  refine hdi.mono ?_
                  clear hdi
                  rintro e w6 ⟨rfl, R6, hm6, hv6⟩
                  have hST := HST.out.mv hm6 hv6
                  clear hm6 hv6 HST
                  have HST := hid hST
                  clear hST c0
                  dsimp only [leakV]
                  go_wp2_with (first | ((with_reducible apply wpList_allocA (ty := 37) #[.int .i64 0, .int .i64 0, .int .i64 0, .int .i64 0]); (case zai => exact zLK); (case zac => rfl); intro wA hbA hfA hsA; have HBA := hid hbA; have HFA := hid hfA; clear hbA hfA hsA) | ((with_reducible apply wpList_storeA (b := w6.heap.size) (C := #[.int .i64 0, .int .i64 0, .int .i64 0, .int .i64 0]) (cells := #[.int .i64 (kk), .int .i64 (kt), .int .i64 (kw), .int .i64 (kn)]) (T := 37)); (case zsx => rfl); (case zsy => rfl); (case zsn => rfl); (case zsi => exact szLK); (case zs1 => rfl); (case zsb => exact HBA.out); intro wS6 hbS hfS hsS; have hST := Sts.new HST.out (fr_made HFA.out hfS (Nat.le_refl _)) hbS (Nat.le_refl _); clear HST HBA HFA hbS hfS hsS; have HST := hid hST; clear hST) | (at_builtin; refine wpList_append_Own _ rfl (.tmp 124) (.tmp 126) 60 rfl 3 i0 (.int .i64 0) 1 8 Try.underlying60 hi0 hz0 hz1 hz2 rfl (by decide) Q (fun _ => True) _ _ rc (ints steps) rfl ?own (some ⟨wS6.heap.size, 0, none⟩) 1 1 (ints [now]) rfl ?vw ?one ?b1 ?b2 ?grow) | still_step | (with_reducible refine wpStill_nil ?_) | (with_reducible refine Flow.Both.mk ?_ ?_) | (with_reducible exact True.intro) | (with_reducible refine Flow.same_mk rfl rfl rfl ?_; go_simp; done) | (with_reducible exact Flow.same_un rfl rfl rfl) | (refine Flow.region_still mixed ?hB ?_; (case hB => decide +kernel)))
                  case own => exact (HOQ.out wS6 (fun e he => (HST.out.keep e (List.mem_cons_of_mem _ (List.mem_append.2 (.inl he)))).1)).fr (S := fun _ => False) (by (repeat' (first | with_reducible exact Fr.refl _ _ | with_reducible apply Fr.alloc | with_reducible apply Fr.drew | with_reducible apply Fr.drewN | (with_reducible refine Fr.setCell ?_ ?_ _)))) (fun _ _ h => h)
                  case vw =>
                    have key : ∀ W : World, Blk W wS6.heap.size #[.int .i64 now] 3 → Vw W 1 (fun _ => True) (some ⟨wS6.heap.size, 0, none⟩) 1 (ints [now]) := fun W hb => Vw.of_blk (sz := 1) (n := 1) (R := fun _ => True) hb trivial rfl
                    exact key _ (by (repeat (with_reducible apply Blk.drew)); exact Blk.new _ _ _)
                  case one => exact ints_one _
                  (try (case b1 => unfold maxLen; omega))
                  (try (case b2 => omega))
                  case grow =>
                    intro ao' cap' w7 ho7 hf7
                    have hQ : ∀ z, Q z → ¬ R6 z ∧ w.heap.size ≤ z ∧ z < wS6.heap.size := fun z hz => by
                      rw [HQE.out] at hz
                      obtain ⟨e, he, rfl⟩ := hz
                      have hk := HST.out.keep e (List.mem_cons_of_mem _ (List.mem_append.2 (.inl he)))
                      exact ⟨hk.2, HL0.out e he, hk.1.lt⟩
                    have hfb : Fr (fun _ => False) wS6 _ := (Fr.refl (fun _ => False) wS6).alloc (.cells #[.int .i64 now] 3)
                    have hSTb := (HST.out.less (L2 := []) (fun e he => by cases he)).fr hfb
                    have hrow7 : RowS w w7 R6 3 1 (.slice ao' (0 + 1) cap') (0 + 1) (ints (steps ++ [now])) := by
                      rw [ints_append]
                      exact RowS.grown (w := wS6.alloc (.cells #[.int .i64 now] 3)) hSTb.sr.lt hSTb.fr0 (by simpa using ho7) hf7 (fun z hz => ⟨(hQ z hz).1, (hQ z hz).2.1, by have := (hQ z hz).2.2; simp; omega⟩)
                    obtain ⟨L7, ra7, rc7, he7, hLa7, hL07, hLo7⟩ := hrow7.toL
                    simp only [Value.slice.injEq, true_and] at he7
                    obtain ⟨rfl, rfl⟩ := he7
                    have hST := (Sts.own hSTb hf7 (fun z hz => ⟨(hQ z hz).1, (hQ z hz).2.1⟩) (fun e he => by cases he)).add hLa7
                    clear HST
                    have HST := hid hST
                    have HL7 := hid hL07
                    have HLO7 := hid hLo7
                    have hlen : (steps ++ [now]).length = 0 + 1 := by rw [List.length_append, ← HSL.out]; rfl
                    have HLEN := hid hlen
                    clear hST hSTb hfb hQ ho7 hf7 hrow7 hLa7 hL07 hLo7 hlen
                    go_wp2_with (first | fail | still_step | (with_reducible refine wpStill_nil ?_) | (with_reducible refine Flow.Both.mk ?_ ?_) | (with_reducible exact True.intro) | (with_reducible refine Flow.same_mk rfl rfl rfl ?_; go_simp; done) | (with_reducible exact Flow.same_un rfl rfl rfl) | (refine Flow.region_still mixed ?hB ?_; (case hB => decide +kernel)))
                    go_at_call 17
                    refine Calls.named fun wc hwc => ?_
                    have hST := Sts.fr HST.out (show Fr (fun _ => False) w7 wc by rw [hwc]; (repeat' (first | with_reducible exact Fr.refl _ _ | with_reducible apply Fr.alloc | with_reducible apply Fr.drew | with_reducible apply Fr.drewN | (with_reducible refine Fr.setCell ?_ ?_ _))))
                    clear HST hwc
                    have HST := hid hST
                    clear hST
                    refine (count_is SB _ s1 0 wc HST.out.sr).mono ?_
                    rintro e w8 ⟨rfl, hf8⟩
                    rw [loop_count HLP1.out]
                    have hST := HST.out.fr hf8
                    clear HST hf8
                    have HST := hid hST
                    clear hST
                    rw [HLEN.out]
                    go_wp2_with (first | fail | still_step | (with_reducible refine wpStill_nil ?_) | (with_reducible refine Flow.Both.mk ?_ ?_) | (with_reducible exact True.intro) | (with_reducible refine Flow.same_mk rfl rfl rfl ?_; go_simp; done) | (with_reducible exact Flow.same_un rfl rfl rfl) | (refine Flow.region_still mixed ?hB ?_; (case hB => decide +kernel)))
                    go_roundw
                    case rel => exact ⟨k + 1, _, s1, steps ++ [now], _, 1, by omega, by go_num, by go_num, Sts.fr (HST.out.less (L2 := []) (fun e he => by cases he)) (show Fr (fun _ => False) w8 _ by (repeat' (first | with_reducible exact Fr.refl _ _ | with_reducible apply Fr.alloc | with_reducible apply Fr.drew | with_reducible apply Fr.drewN | (with_reducible refine Fr.setCell ?_ ?_ _)))), HF1.out, HLP1.out, RowS.fr (by rw [HLEN.out]; exact RowS.ofL HST.out (fun e he => List.mem_append.2 (.inl he)) HL7.out HLO7.out) (show Fr (fun _ => False) w8 _ by (repeat' (first | with_reducible exact Fr.refl _ _ | with_reducible apply Fr.alloc | with_reducible apply Fr.drew | with_reducible apply Fr.drewN | (with_reducible refine Fr.setCell ?_ ?_ _))))⟩
                    case measure => simp [intOf]; omega
                · skip
                  obtain ⟨⟨s1, ⟨kk, kt, kw, kn⟩, is1⟩, hres⟩ : ∃ r, r = s.doIt 2 0 := ⟨_, rfl⟩
                  have hlb := loop_turn HF.out.ok HLP.out
                  rw [← hres] at hlb
                  have hfit1 : Fits s1 (k + 1) := by have := HF.out.doIt 2 0; rw [← hres] at this; exact this
                  have HRES := hid hres
                  have HF1 := hid hfit1
                  obtain ⟨b1, b2, b3⟩ := hlb
                  dsimp only at b1 b2 b3
                  clear hres hfit1
                  rw [decide_eq_false (fun h => hnw h.2)] at b1
                  clear hp
                  subst b1
                  have he1 := b3 rfl
                  have HLP1 := hid (show LoopS s1 N steps now p from by rw [he1]; exact HLP.out)
                  clear he1
                  clear b2 b3
                  go_wp2_with (first | fail | still_step | (with_reducible refine wpStill_nil ?_) | (with_reducible refine Flow.Both.mk ?_ ?_) | (with_reducible exact True.intro) | (with_reducible refine Flow.same_mk rfl rfl rfl ?_; go_simp; done) | (with_reducible exact Flow.same_un rfl rfl rfl) | (refine Flow.region_still mixed ?hB ?_; (case hB => decide +kernel)))
                  go_at_call 13
                  refine Calls.named fun wc hwc => ?_
                  have hST := Sts.fr HST.out (show Fr (fun _ => False) w4 wc by rw [hwc]; (repeat' (first | with_reducible exact Fr.refl _ _ | with_reducible apply Fr.alloc | with_reducible apply Fr.drew | with_reducible apply Fr.drewN | (with_reducible refine Fr.setCell ?_ ?_ _))))
                  clear HST hwc
                  have HST := hid hST
                  clear hST
                  have hdi := do_is SB _ s 2 0 wc HST.out.sr HF.out.ok (HF.out.room (by omega)) HF.out.mem
                  rw [← HRES.out] at hdi
                  refine hdi.mono ?_
                  clear hdi
                  rintro e w6 ⟨rfl, R6, hm6, hv6⟩
                  have hST := HST.out.mv hm6 hv6
                  clear hm6 hv6 HST
                  have HST := hid hST
                  clear hST c0
                  dsimp only [leakV]
                  go_wp2_with (first | ((with_reducible apply wpList_allocA (ty := 37) #[.int .i64 0, .int .i64 0, .int .i64 0, .int .i64 0]); (case zai => exact zLK); (case zac => rfl); intro wA hbA hfA hsA; have HBA := hid hbA; have HFA := hid hfA; clear hbA hfA hsA) | ((with_reducible apply wpList_storeA (b := w6.heap.size) (C := #[.int .i64 0, .int .i64 0, .int .i64 0, .int .i64 0]) (cells := #[.int .i64 (kk), .int .i64 (kt), .int .i64 (kw), .int .i64 (kn)]) (T := 37)); (case zsx => rfl); (case zsy => rfl); (case zsn => rfl); (case zsi => exact szLK); (case zs1 => rfl); (case zsb => exact HBA.out); intro wS6 hbS hfS hsS; have hST := Sts.new HST.out (fr_made HFA.out hfS (Nat.le_refl _)) hbS (Nat.le_refl _); clear HST HBA HFA hbS hfS hsS; have HST := hid hST; clear hST) | fail | still_step | (with_reducible refine wpStill_nil ?_) | (with_reducible refine Flow.Both.mk ?_ ?_) | (with_reducible exact True.intro) | (with_reducible refine Flow.same_mk rfl rfl rfl ?_; go_simp; done) | (with_reducible exact Flow.same_un rfl rfl rfl) | (refine Flow.region_still mixed ?hB ?_; (case hB => decide +kernel)))
                  go_at_call 17
                  refine Calls.named fun wc hwc => ?_
                  have hST := Sts.fr HST.out (show Fr (fun _ => False) wS6 wc by rw [hwc]; (repeat' (first | with_reducible exact Fr.refl _ _ | with_reducible apply Fr.alloc | with_reducible apply Fr.drew | with_reducible apply Fr.drewN | (with_reducible refine Fr.setCell ?_ ?_ _))))
                  clear HST hwc
                  have HST := hid hST
                  clear hST
                  refine (count_is SB _ s1 0 wc HST.out.sr).mono ?_
                  rintro e w8 ⟨rfl, hf8⟩
                  rw [loop_count HLP1.out]
                  have hST := HST.out.fr hf8
                  clear HST hf8
                  have HST := hid hST
                  clear hST
                  rw [← HSL.out]
                  go_wp2_with (first | fail | still_step | (with_reducible refine wpStill_nil ?_) | (with_reducible refine Flow.Both.mk ?_ ?_) | (with_reducible exact True.intro) | (with_reducible refine Flow.same_mk rfl rfl rfl ?_; go_simp; done) | (with_reducible exact Flow.same_un rfl rfl rfl) | (refine Flow.region_still mixed ?hB ?_; (case hB => decide +kernel)))
                  go_roundw
                  case rel => exact ⟨k + 1, _, s1, steps, _, p, by omega, by go_num, rfl, Sts.fr (HST.out.less (L2 := []) (fun e he => by cases he)) (show Fr (fun _ => False) w8 _ by (repeat' (first | with_reducible exact Fr.refl _ _ | with_reducible apply Fr.alloc | with_reducible apply Fr.drew | with_reducible apply Fr.drewN | (with_reducible refine Fr.setCell ?_ ?_ _)))), HF1.out, HLP1.out, RowS.fr (by rw [← HSL.out]; exact RowS.ofL HST.out (fun e he => List.mem_cons_of_mem _ (List.mem_append.2 (.inl he))) HL0.out HLO.out) (show Fr (fun _ => False) w8 _ by (repeat' (first | with_reducible exact Fr.refl _ _ | with_reducible apply Fr.alloc | with_reducible apply Fr.drew | with_reducible apply Fr.drewN | (with_reducible refine Fr.setCell ?_ ?_ _))))⟩
                  case measure => simp [intOf]; omega
              · have hp2 : (p == 0) = false := by simpa using hp
                obtain ⟨⟨s1, ⟨kk, kt, kw, kn⟩, is1⟩, hres⟩ : ∃ r, r = s.doIt 2 0 := ⟨_, rfl⟩
                have hlb := loop_turn HF.out.ok HLP.out
                rw [← hres] at hlb
                have hfit1 : Fits s1 (k + 1) := by have := HF.out.doIt 2 0; rw [← hres] at this; exact this
                have HRES := hid hres
                have HF1 := hid hfit1
                obtain ⟨b1, b2, b3⟩ := hlb
                dsimp only at b1 b2 b3
                clear hres hfit1
                rw [decide_eq_false (fun h => hp h.1)] at b1
                clear hp
                subst b1
                have he1 := b3 rfl
                have HLP1 := hid (show LoopS s1 N steps now p from by rw [he1]; exact HLP.out)
                clear he1
                clear b2 b3
                go_wp2_with (first | fail | still_step | (with_reducible refine wpStill_nil ?_) | (with_reducible refine Flow.Both.mk ?_ ?_) | (with_reducible exact True.intro) | (with_reducible refine Flow.same_mk rfl rfl rfl ?_; go_simp; done) | (with_reducible exact Flow.same_un rfl rfl rfl) | (refine Flow.region_still mixed ?hB ?_; (case hB => decide +kernel)))
                go_at_call 13
                refine Calls.named fun wc hwc => ?_
                have hST := Sts.fr HST.out (show Fr (fun _ => False) w4 wc by rw [hwc]; (repeat' (first | with_reducible exact Fr.refl _ _ | with_reducible apply Fr.alloc | with_reducible apply Fr.drew | with_reducible apply Fr.drewN | (with_reducible refine Fr.setCell ?_ ?_ _))))
                clear HST hwc
                have HST := hid hST
                clear hST
                have hdi := do_is SB _ s 2 0 wc HST.out.sr HF.out.ok (HF.out.room (by omega)) HF.out.mem
                rw [← HRES.out] at hdi
                refine hdi.mono ?_
                clear hdi
                rintro e w6 ⟨rfl, R6, hm6, hv6⟩
                have hST := HST.out.mv hm6 hv6
                clear hm6 hv6 HST
                have HST := hid hST
                clear hST c0
                dsimp only [leakV]
                go_wp2_with (first | ((with_reducible apply wpList_allocA (ty := 37) #[.int .i64 0, .int .i64 0, .int .i64 0, .int .i64 0]); (case zai => exact zLK); (case zac => rfl); intro wA hbA hfA hsA; have HBA := hid hbA; have HFA := hid hfA; clear hbA hfA hsA) | ((with_reducible apply wpList_storeA (b := w6.heap.size) (C := #[.int .i64 0, .int .i64 0, .int .i64 0, .int .i64 0]) (cells := #[.int .i64 (kk), .int .i64 (kt), .int .i64 (kw), .int .i64 (kn)]) (T := 37)); (case zsx => rfl); (case zsy => rfl); (case zsn => rfl); (case zsi => exact szLK); (case zs1 => rfl); (case zsb => exact HBA.out); intro wS6 hbS hfS hsS; have hST := Sts.new HST.out (fr_made HFA.out hfS (Nat.le_refl _)) hbS (Nat.le_refl _); clear HST HBA HFA hbS hfS hsS; have HST := hid hST; clear hST) | fail | still_step | (with_reducible refine wpStill_nil ?_) | (with_reducible refine Flow.Both.mk ?_ ?_) | (with_reducible exact True.intro) | (with_reducible refine Flow.same_mk rfl rfl rfl ?_; go_simp; done) | (with_reducible exact Flow.same_un rfl rfl rfl) | (refine Flow.region_still mixed ?hB ?_; (case hB => decide +kernel)))
                go_at_call 17
                refine Calls.named fun wc hwc => ?_
                have hST := Sts.fr HST.out (show Fr (fun _ => False) wS6 wc by rw [hwc]; (repeat' (first | with_reducible exact Fr.refl _ _ | with_reducible apply Fr.alloc | with_reducible apply Fr.drew | with_reducible apply Fr.drewN | (with_reducible refine Fr.setCell ?_ ?_ _))))
                clear HST hwc
                have HST := hid hST
                clear hST
                refine (count_is SB _ s1 0 wc HST.out.sr).mono ?_
                rintro e w8 ⟨rfl, hf8⟩
                rw [loop_count HLP1.out]
                have hST := HST.out.fr hf8
                clear HST hf8
                have HST := hid hST
                clear hST
                rw [← HSL.out]
                go_wp2_with (first | fail | still_step | (with_reducible refine wpStill_nil ?_) | (with_reducible refine Flow.Both.mk ?_ ?_) | (with_reducible exact True.intro) | (with_reducible refine Flow.same_mk rfl rfl rfl ?_; go_simp; done) | (with_reducible exact Flow.same_un rfl rfl rfl) | (refine Flow.region_still mixed ?hB ?_; (case hB => decide +kernel)))
                go_roundw
                case rel => exact ⟨k + 1, _, s1, steps, _, p, by omega, by go_num, rfl, Sts.fr (HST.out.less (L2 := []) (fun e he => by cases he)) (show Fr (fun _ => False) w8 _ by (repeat' (first | with_reducible exact Fr.refl _ _ | with_reducible apply Fr.alloc | with_reducible apply Fr.drew | with_reducible apply Fr.drewN | (with_reducible refine Fr.setCell ?_ ?_ _)))), HF1.out, HLP1.out, RowS.fr (by rw [← HSL.out]; exact RowS.ofL HST.out (fun e he => List.mem_cons_of_mem _ (List.mem_append.2 (.inl he))) HL0.out HLO.out) (show Fr (fun _ => False) w8 _ by (repeat' (first | with_reducible exact Fr.refl _ _ | with_reducible apply Fr.alloc | with_reducible apply Fr.drew | with_reducible apply Fr.drewN | (with_reducible refine Fr.setCell ?_ ?_ _))))⟩
                case measure => simp [intOf]; omega
            · have he1 : (x % 4 == 1) = false := by simpa using h1
              clear h0 h1
              obtain ⟨⟨s1, ⟨kk, kt, kw, kn⟩, is1⟩, hres⟩ : ∃ r, r = s.doIt 0 0 := ⟨_, rfl⟩
              have hlb := loop_step HF.out.ok HLP.out
              rw [← hres] at hlb
              have hfit1 : Fits s1 (k + 1) := by have := HF.out.doIt 0 0; rw [← hres] at this; exact this
              have HRES := hid hres
              have HF1 := hid hfit1
              obtain ⟨b1, b2, b3⟩ := hlb
              dsimp only at b1 b2 b3
              clear hres hfit1
              rw [decide_eq_true (Or.inl HSE.out)] at b1
              subst b1
              have hlp1 := b2 rfl
              rw [if_pos HSE.out] at hlp1
              have HLP1 := hid hlp1
              clear b2 b3 hlp1
              go_wp2_with (first | fail | still_step | (with_reducible refine wpStill_nil ?_) | (with_reducible refine Flow.Both.mk ?_ ?_) | (with_reducible exact True.intro) | (with_reducible refine Flow.same_mk rfl rfl rfl ?_; go_simp; done) | (with_reducible exact Flow.same_un rfl rfl rfl) | (refine Flow.region_still mixed ?hB ?_; (case hB => decide +kernel)))
              go_at_call 13
              refine Calls.named fun wc hwc => ?_
              have hST := Sts.fr HST.out (show Fr (fun _ => False) w4 wc by rw [hwc]; (repeat' (first | with_reducible exact Fr.refl _ _ | with_reducible apply Fr.alloc | with_reducible apply Fr.drew | with_reducible apply Fr.drewN | (with_reducible refine Fr.setCell ?_ ?_ _))))
              clear HST hwc
              have HST := hid hST
              clear hST
              have hdi := do_is SB _ s 0 0 wc HST.out.sr HF.out.ok (HF.out.room (by omega)) HF.out.mem
              rw [← HRES.out] at hdi
              refine hdi.mono ?_
              clear hdi
              rintro e w6 ⟨rfl, R6, hm6, hv6⟩
              have hST := HST.out.mv hm6 hv6
              clear hm6 hv6 HST
              have HST := hid hST
              clear hST c0
              dsimp only [leakV]
              go_wp2_with (first | ((with_reducible apply wpList_allocA (ty := 37) #[.int .i64 0, .int .i64 0, .int .i64 0, .int .i64 0]); (case zai => exact zLK); (case zac => rfl); intro wA hbA hfA hsA; have HBA := hid hbA; have HFA := hid hfA; clear hbA hfA hsA) | ((with_reducible apply wpList_storeA (b := w6.heap.size) (C := #[.int .i64 0, .int .i64 0, .int .i64 0, .int .i64 0]) (cells := #[.int .i64 (kk), .int .i64 (kt), .int .i64 (kw), .int .i64 (kn)]) (T := 37)); (case zsx => rfl); (case zsy => rfl); (case zsn => rfl); (case zsi => exact szLK); (case zs1 => rfl); (case zsb => exact HBA.out); intro wS6 hbS hfS hsS; have hST := Sts.new HST.out (fr_made HFA.out hfS (Nat.le_refl _)) hbS (Nat.le_refl _); clear HST HBA HFA hbS hfS hsS; have HST := hid hST; clear hST) | fail | still_step | (with_reducible refine wpStill_nil ?_) | (with_reducible refine Flow.Both.mk ?_ ?_) | (with_reducible exact True.intro) | (with_reducible refine Flow.same_mk rfl rfl rfl ?_; go_simp; done) | (with_reducible exact Flow.same_un rfl rfl rfl) | (refine Flow.region_still mixed ?hB ?_; (case hB => decide +kernel)))
              go_at_call 17
              refine Calls.named fun wc hwc => ?_
              have hST := Sts.fr HST.out (show Fr (fun _ => False) wS6 wc by rw [hwc]; (repeat' (first | with_reducible exact Fr.refl _ _ | with_reducible apply Fr.alloc | with_reducible apply Fr.drew | with_reducible apply Fr.drewN | (with_reducible refine Fr.setCell ?_ ?_ _))))
              clear HST hwc
              have HST := hid hST
              clear hST
              refine (count_is SB _ s1 0 wc HST.out.sr).mono ?_
              rintro e w8 ⟨rfl, hf8⟩
              rw [loop_count HLP1.out]
              have hST := HST.out.fr hf8
              clear HST hf8
              have HST := hid hST
              clear hST
              rw [← HSL.out]
              go_wp2_with (first | fail | still_step | (with_reducible refine wpStill_nil ?_) | (with_reducible refine Flow.Both.mk ?_ ?_) | (with_reducible exact True.intro) | (with_reducible refine Flow.same_mk rfl rfl rfl ?_; go_simp; done) | (with_reducible exact Flow.same_un rfl rfl rfl) | (refine Flow.region_still mixed ?hB ?_; (case hB => decide +kernel)))
              go_roundw
              case rel => exact ⟨k + 1, _, s1, steps, _, 0, by omega, by go_num, rfl, Sts.fr (HST.out.less (L2 := []) (fun e he => by cases he)) (show Fr (fun _ => False) w8 _ by (repeat' (first | with_reducible exact Fr.refl _ _ | with_reducible apply Fr.alloc | with_reducible apply Fr.drew | with_reducible apply Fr.drewN | (with_reducible refine Fr.setCell ?_ ?_ _)))), HF1.out, HLP1.out, RowS.fr (by rw [← HSL.out]; exact RowS.ofL HST.out (fun e he => List.mem_cons_of_mem _ (List.mem_append.2 (.inl he))) HL0.out HLO.out) (show Fr (fun _ => False) w8 _ by (repeat' (first | with_reducible exact Fr.refl _ _ | with_reducible apply Fr.alloc | with_reducible apply Fr.drew | with_reducible apply Fr.drewN | (with_reducible refine Fr.setCell ?_ ?_ _))))⟩
              case measure => simp [intOf]; omega
      · obtain rfl : k = LL := by omega
        clear HV hlt hk
        go_wp2_with (first | fail | still_step | (with_reducible refine wpStill_nil ?_) | (with_reducible refine Flow.Both.mk ?_ ?_) | (with_reducible exact True.intro) | (with_reducible refine Flow.same_mk rfl rfl rfl ?_; go_simp; done) | (with_reducible exact Flow.same_un rfl rfl rfl) | (refine Flow.region_still mixed ?hB ?_; (case hB => decide +kernel)))
        go_ret
        exact ⟨rfl, (Sts.fr HST.out (show Fr (fun _ => False) wr _ by (repeat' (first | with_reducible exact Fr.refl _ _ | with_reducible apply Fr.alloc | with_reducible apply Fr.drew | with_reducible apply Fr.drewN | (with_reducible refine Fr.setCell ?_ ?_ _))))).fr0⟩
end Go.Proofs.Ytbfeopakmjcapaa.Sp
