/-
  SpecSilent: while a guess of a thread is open, no event of it comes, and no lock changes by it.
-/
import Derived.Test.YtbfeopakmjcapaaAwake29
import Derived.Test.YtbfeopakmjcapaaSmall29
set_option linter.unusedVariables false
namespace Go.Proofs.Ytbfeopakmjcapaa.Sp
open Go.RowKit Go.Proofs.Ytbfeopakmjcapaa.Seq Go.Proofs.Ytbfeopakmjcapaa.Tso
attribute [local irreducible] wpStill wpList Calls CallsIn

set_option linter.unusedSimpArgs false in
set_option maxHeartbeats 40000000 in
set_option maxRecDepth 100000 in
theorem silent_walk (ao aa a1 a2 : Option Addr) (co ac cap1 cap2 : Nat) (qs : List ((Option Addr × Nat) × List Ins)) (al : List (Int × Int × Bool)) (words locks : Int) (mem : List Int) (l : List (Int × Int)) (w : World)
    (hc : Codes w (fun k => k < w.heap.size) ao qs) (ha : Vw w 3 (fun k => k < w.heap.size) aa al.length (areaC al)) (hal : al.length ≤ 9223372036854775807) (hql : qs.length ≤ 9223372036854775807) (hi : ∀ q ∈ qs, q.2.length ≤ 9223372036854775807)
    (hm : Vw w 1 (fun k => k < w.heap.size) a1 mem.length (ints mem)) (hmn : a1 = none → mem.length = 0) (hml : mem.length ≤ 9223372036854775807) (hv : Vw w 2 (fun k => k < w.heap.size) a2 l.length (dosC l)) (hll : l.length ≤ 9223372036854775807) :
    Calls Try.prog 4 #[.agg #[.slice ao qs.length co, .slice aa al.length ac, .int .i64 words, .int .i64 locks], .slice a1 mem.length cap1, .slice a2 l.length cap2] w fun e w' => e = .returned (.bool true) ∧ Fr (fun _ => False) w w' := by
  have HV := hid hv
  clear hv
  have HC := hid hc
  have HA := hid ha
  have HM := hid hm
  have HMN := hid hmn
  have HI := hid hi
  have hqal := hid (And.intro hql hal)
  clear hc ha hm hmn hi hql hal
  obtain ⟨QL, hQL⟩ : ∃ QL, QL = qs.length := ⟨_, rfl⟩
  have HQL := hid hQL
  rw [← hQL]
  obtain ⟨AL, hAL⟩ : ∃ AL, AL = al.length := ⟨_, rfl⟩
  have HAL := hid hAL
  rw [← hAL]
  obtain ⟨ML, hML⟩ : ∃ ML, ML = mem.length := ⟨_, rfl⟩
  have HML := hid hML
  rw [← hML] at hml ⊢
  clear hQL hAL hML
  have HX := hid (Blk.new w #[.slice ao QL co, .slice aa AL ac, .int .i64 words, .int .i64 locks] 25)
  go_enter Try.func4, Try.ntmps4
  go_wp2_with (first | fail | still_step | (with_reducible refine wpStill_nil ?_) | (with_reducible refine Flow.Both.mk ?_ ?_) | (with_reducible exact True.intro) | (with_reducible refine Flow.same_mk rfl rfl rfl ?_; go_simp; done) | (with_reducible exact Flow.same_un rfl rfl rfl) | (refine Flow.region_still mixed ?hB ?_; (case hB => decide +kernel)))
  go_at_call 10
  refine Calls.named fun wc hwc => ?_
  have hfc : Fr (fun _ => False) w wc := by rw [hwc]; (repeat' (first | with_reducible exact Fr.refl _ _ | with_reducible apply Fr.alloc | with_reducible apply Fr.drew | with_reducible apply Fr.drewN | (with_reducible refine Fr.setCell ?_ ?_ _)))
  have hxc : Blk wc w.heap.size #[.slice ao QL co, .slice aa AL ac, .int .i64 words, .int .i64 locks] 25 := by rw [hwc]; (repeat (first | exact HX.out | with_reducible apply Blk.drew | with_reducible apply Blk.alloc))
  refine (awake29_true _).mono ?_
  rintro e w1 ⟨rfl, hf1⟩
  have HF1 := hid (hfc.trans hf1 (fun _ _ h => h))
  have hx1 := hxc.fr hf1 (fun h => h)
  have c0_i := Blk.cell hx1 0
  have f0_i := Blk.free hx1 0
  have c1_i := Blk.cell hx1 1
  have f1_i := Blk.free hx1 1
  have c2_i := Blk.cell hx1 2
  have f2_i := Blk.free hx1 2
  have c3_i := Blk.cell hx1 3
  have f3_i := Blk.free hx1 3
  have l_i := Blk.lt hx1
  have HX1 := hid hx1
  have HC1 := hid (HC.out.fr HF1.out (fun _ _ h => h))
  have HA1 := hid (HA.out.fr HF1.out (fun _ _ h => h))
  clear hf1 HX hx1 hwc hfc hxc
  go_wp2_with (first | fail | still_step | (with_reducible refine wpStill_nil ?_) | (with_reducible refine Flow.Both.mk ?_ ?_) | (with_reducible exact True.intro) | (with_reducible refine Flow.same_mk rfl rfl rfl ?_; go_simp; done) | (with_reducible exact Flow.same_un rfl rfl rfl) | (refine Flow.region_still mixed ?hB ?_; (case hB => decide +kernel)))
  go_at_call 11
  rw [HQL.out, HAL.out]
  refine (small29_is _ _ ao aa co ac qs al words locks w1 HC1.out HA1.out hqal.out.2 hqal.out.1 HI.out).mono ?_
  rintro e w2 ⟨few, rfl, hfew, hf2⟩
  have HFEW := hid hfew
  have HF2 := hid (HF1.out.trans hf2 (fun _ _ h => h))
  have hx2 := HX1.out.fr hf2 (fun h => h)
  clear c0_i f0_i c1_i f1_i c2_i f2_i c3_i f3_i l_i
  have c0_i := Blk.cell hx2 0
  have f0_i := Blk.free hx2 0
  have c1_i := Blk.cell hx2 1
  have f1_i := Blk.free hx2 1
  have c2_i := Blk.cell hx2 2
  have f2_i := Blk.free hx2 2
  have c3_i := Blk.cell hx2 3
  have f3_i := Blk.free hx2 3
  have l_i := Blk.lt hx2
  clear hf2 hfew HX1 hx2 HF1 HC1 HA1
  cases few with
  | false =>
    go_wp2_with (first | fail | still_step | (with_reducible refine wpStill_nil ?_) | (with_reducible refine Flow.Both.mk ?_ ?_) | (with_reducible exact True.intro) | (with_reducible refine Flow.same_mk rfl rfl rfl ?_; go_simp; done) | (with_reducible exact Flow.same_un rfl rfl rfl) | (refine Flow.region_still mixed ?hB ?_; (case hB => decide +kernel)))
    go_ret
    exact ⟨rfl, HF2.out⟩
  | true =>
    obtain ⟨hg, hwd, hln⟩ := HFEW.out rfl
    have hql4 : qs.length ≤ 4 := hg.1
    by_cases hm3 : 300 < ML
    · go_wp2_with (first | fail | still_step | (with_reducible refine wpStill_nil ?_) | (with_reducible refine Flow.Both.mk ?_ ?_) | (with_reducible exact True.intro) | (with_reducible refine Flow.same_mk rfl rfl rfl ?_; go_simp; done) | (with_reducible exact Flow.same_un rfl rfl rfl) | (refine Flow.region_still mixed ?hB ?_; (case hB => decide +kernel)))
      go_ret
      exact ⟨rfl, HF2.out⟩
    by_cases hl6 : 100 < l.length
    · go_wp2_with (first | fail | still_step | (with_reducible refine wpStill_nil ?_) | (with_reducible refine Flow.Both.mk ?_ ?_) | (with_reducible exact True.intro) | (with_reducible refine Flow.same_mk rfl rfl rfl ?_; go_simp; done) | (with_reducible exact Flow.same_un rfl rfl rfl) | (refine Flow.region_still mixed ?hB ?_; (case hB => decide +kernel)))
      go_ret
      exact ⟨rfl, HF2.out⟩
    have HG := hid hg
    have HLN := hid hln
    obtain ⟨words, rfl⟩ : ∃ n : Nat, words = n := ⟨words.toNat, by have := hg.2.2.2.1; omega⟩
    obtain ⟨locks, rfl⟩ : ∃ n : Nat, locks = n := ⟨locks.toNat, by have := hg.2.1; omega⟩
    have hlk8 : locks ≤ 8 := by have := hg.2.2.1; omega
    clear hg hln HFEW
    go_wp2_with (first | fail | still_step | (with_reducible refine wpStill_nil ?_) | (with_reducible refine Flow.Both.mk ?_ ?_) | (with_reducible exact True.intro) | (with_reducible refine Flow.same_mk rfl rfl rfl ?_; go_simp; done) | (with_reducible exact Flow.same_un rfl rfl rfl) | (refine Flow.region_still mixed ?hB ?_; (case hB => decide +kernel)))
    go_at_call 12
    rw [HQL.out, HML.out]
    refine Calls.named fun wc hwc => ?_
    have hfc : Fr (fun _ => False) w2 wc := by rw [hwc]; (repeat' (first | with_reducible exact Fr.refl _ _ | with_reducible apply Fr.alloc | with_reducible apply Fr.drew | with_reducible apply Fr.drewN | (with_reducible refine Fr.setCell ?_ ?_ _)))
    have HF3 := hid (HF2.out.trans hfc (fun _ _ h => h))
    refine (snew_is (fun k => k < w.heap.size) (fun k => k < w.heap.size) ao a1 aa co cap1 AL ac qs words locks 2 4 mem wc (HC.out.fr HF3.out (fun _ _ h => h)) (HM.out.fr HF3.out (fun _ _ h => h)) HMN.out (by omega) (by have := HML.out; omega) (fun q hq => by have := HLN.out q hq; omega) (by omega) hlk8 (by omega) (by omega)).mono ?_
    rintro e w3 ⟨SB, rfl, hs3, hf3⟩
    obtain ⟨s0, hs0⟩ : ∃ x, x = startS (qs.map (·.2)) words mem locks 2 4 := ⟨_, rfl⟩
    rw [← hs0] at hs3
    have hft : Fits s0 0 := by
      rw [hs0]
      refine start_fits (fun c hc i hi => ?_) (by omega) (by omega) (by omega)
      obtain ⟨q, hq, rfl⟩ := List.mem_map.1 hc
      exact HG.out.2.2.2.2.2 q hq i hi
    have hwin0 : s0.window = 4 := by rw [hs0]; rfl
    have HFT := hid hft
    have HSZ := hid hs0
    have HWIN := hid hwin0
    have HS0 := hid (show Sts w w3 _ SB s0 [] from ⟨hs3, fun e he => (by cases he), HF3.out.trans hf3 (fun _ _ h => h), fun z hz => by have := HF3.out.size; exact Nat.le_trans this hz.1⟩)
    clear c0_i f0_i c1_i f1_i c2_i f2_i c3_i f3_i l_i hf3 hs3 hs0 hft hwin0 hwc hfc HF3
    clear HG HLN HQL HAL HML hqal hlk8 hwd hql4 hm3 HC HA HM HMN HI HF2
    go_wp2_with (first | fail | still_step | (with_reducible refine wpStill_nil ?_) | (with_reducible refine Flow.Both.mk ?_ ?_) | (with_reducible exact True.intro) | (with_reducible refine Flow.same_mk rfl rfl rfl ?_; go_simp; done) | (with_reducible exact Flow.same_un rfl rfl rfl) | (refine Flow.region_still mixed ?hB ?_; (case hB => decide +kernel)))
    go_loopw [10] (fun i wr => ∃ (k : Nat) (R : Nat → Prop) (s : SM), k ≤ l.length ∧ i = .int .i64 k ∧ Sts w wr R SB s [] ∧ Fits s k ∧ s.window = 4) (fun i _ => l.length - (intOf i).toNat)
    case atStart => exact ⟨0, _, _, Nat.zero_le _, rfl, HS0.out, HFT.out, HWIN.out⟩
    case round =>
      obtain ⟨k, R, s, hk, rfl, hst, hfit, hwin⟩ := hrel
      have HST := hid hst
      have HF := hid hfit
      have HFR := hid hst.fr0
      clear hst hfit HS0 HFT HWIN
      by_cases hlt : k < l.length
      · have hne : dosC l ≠ [] := fun h => by have := dosC_length l; rw [h] at this; simp at this; omega
        obtain ⟨r0, off0, rfl, hr0, hcell⟩ := HV.out.cell hne
        have HCELL := hid (show ∀ W : World, Fr (fun _ => False) w W → W.cell? ⟨r0, off0 + k * 2, none⟩ = some (.int .i64 l[k].1) ∧ W.cell? ⟨r0, off0 + k * 2 + 1, none⟩ = some (.int .i64 l[k].2) from fun W hf => ⟨hf.cell (hcell (k * 2) _ (dosC_get l k hlt).1) (fun h => h), hf.cell (hcell (k * 2 + 1) _ (dosC_get l k hlt).2) (fun h => h)⟩)
        clear hcell hne
        generalize l[k] = d at *
        obtain ⟨kind, who⟩ := d
        dsimp only at HCELL
        obtain ⟨⟨s1, ⟨kk, kt, kw, kn⟩, is1⟩, hres⟩ : ∃ r, r = s.doIt kind who := ⟨_, rfl⟩
        have hseen := seen_do s kind who
        rw [← hres] at hseen
        obtain ⟨sn, sy, so, se⟩ := hseen
        dsimp only at sn sy so se
        have hfit1 : Fits s1 (k + 1) := by have := HF.out.doIt kind who; rw [← hres] at this; exact this
        have hwin1 : s1.window = 4 := by have := do_window s kind who; rw [← hres] at this; dsimp only at this; omega
        have hcl := count_le hfit1.ok who
        obtain ⟨CN, hCN⟩ : ∃ c, c = s.count who := ⟨_, rfl⟩
        obtain ⟨CN1, hCN1⟩ : ∃ c, c = s1.count who := ⟨_, rfl⟩
        obtain ⟨EL, hEL⟩ : ∃ c, c = s.x.events.length := ⟨_, rfl⟩
        rw [← hCN] at so
        rw [← hCN1] at hcl
        have hc4 : ¬ (4 < CN1) := by omega
        have cs : (is1 = false ∧ kk = 0 ∧ kt = 0 ∧ kw = 0 ∧ kn = 0 ∧ s1.x.events.length = EL) ∨ (is1 = true ∧ who = kt ∧ s1.x.events.length = EL ∧ (0 < CN → kk ≠ 5)) ∨ (is1 = true ∧ who = kt ∧ CN = 0 ∧ kk = 5 ∧ ∃ e : Ev, s1.x.events = s.x.events ++ [e] ∧ kw = e.kind ∧ kn = e.n) := by
          cases is1 with
          | false =>
            obtain ⟨e1, rfl⟩ := sn rfl
            simp only [none_, Leak.mk.injEq] at e1
            obtain ⟨rfl, rfl, rfl, rfl⟩ := e1
            exact .inl ⟨rfl, rfl, rfl, rfl, rfl, hEL.symm⟩
          | true =>
            have e1 := (sy rfl).symm
            by_cases hcn : 0 < CN
            · obtain ⟨e2, e3⟩ := so hcn
              exact .inr (.inl ⟨rfl, e1, by rw [e2, hEL], fun _ => e3⟩)
            · rcases se with e2 | ⟨e, e2, e3, e4, e5⟩
              · exact .inr (.inl ⟨rfl, e1, by rw [e2, hEL], fun h => absurd h hcn⟩)
              · exact .inr (.inr ⟨rfl, e1, by omega, e3, e, e2, e4, e5⟩)
        have HRES := hid hres
        have HF1 := hid hfit1
        have HW1 := hid hwin1
        have HCC := hid hCN
        have HC1 := hid hCN1
        have HEL := hid hEL
        obtain ⟨c0, c1⟩ := HCELL.out _ HFR.out
        have hel1 : EL ≤ 100 := by have := HF.out.ev; omega
        clear hres sn sy so se hfit1 hwin1 hcl hCN hCN1 hEL
        go_wp2_with (first | fail | still_step | (with_reducible refine wpStill_nil ?_) | (with_reducible refine Flow.Both.mk ?_ ?_) | (with_reducible exact True.intro) | (with_reducible refine Flow.same_mk rfl rfl rfl ?_; go_simp; done) | (with_reducible exact Flow.same_un rfl rfl rfl) | (refine Flow.region_still mixed ?hB ?_; (case hB => decide +kernel)))
        go_at_call 17
        refine Calls.named fun wc hwc => ?_
        have hST := Sts.fr HST.out (show Fr (fun _ => False) wr wc by rw [hwc]; (repeat' (first | with_reducible exact Fr.refl _ _ | with_reducible apply Fr.alloc | with_reducible apply Fr.drew | with_reducible apply Fr.drewN | (with_reducible refine Fr.setCell ?_ ?_ _))))
        clear HST hwc
        have HST := hid hST
        clear hST
        refine (count_is SB _ s who wc HST.out.sr).mono ?_
        rintro e w4 ⟨rfl, hf4⟩
        rw [← HCC.out]
        have hST := HST.out.fr hf4
        clear HST hf4
        have HST := hid hST
        clear hST
        clear c0 c1
        obtain ⟨c0, c1⟩ := HCELL.out _ HST.out.fr0
        rcases cs with ⟨rfl, rfl, rfl, rfl, rfl, he⟩ | ⟨rfl, rfl, he, hk5⟩ | ⟨rfl, rfl, rfl, rfl, e, he, rfl, rfl⟩
        · by_cases hcn : 0 < CN
          · skip
            go_wp2_with (first | fail | still_step | (with_reducible refine wpStill_nil ?_) | (with_reducible refine Flow.Both.mk ?_ ?_) | (with_reducible exact True.intro) | (with_reducible refine Flow.same_mk rfl rfl rfl ?_; go_simp; done) | (with_reducible exact Flow.same_un rfl rfl rfl) | (refine Flow.region_still mixed ?hB ?_; (case hB => decide +kernel)))
            go_at_call 15
            refine Calls.named fun wc hwc => ?_
            have hST := Sts.fr HST.out (show Fr (fun _ => False) w4 wc by rw [hwc]; (repeat' (first | with_reducible exact Fr.refl _ _ | with_reducible apply Fr.alloc | with_reducible apply Fr.drew | with_reducible apply Fr.drewN | (with_reducible refine Fr.setCell ?_ ?_ _))))
            clear HST hwc
            have HST := hid hST
            clear hST
            refine (eventsS_is SB _ s wc HST.out.sr (HF.out.room (by omega))).mono ?_
            rintro e w5 ⟨ea, ec, rfl, ho5, hf5⟩
            rw [← HEL.out]
            have hST := HST.out.fr hf5
            clear HST hf5
            have HST := hid hST
            clear hST
            clear ho5
            clear c0 c1
            obtain ⟨c0, c1⟩ := HCELL.out _ HST.out.fr0
            go_wp2_with (first | fail | still_step | (with_reducible refine wpStill_nil ?_) | (with_reducible refine Flow.Both.mk ?_ ?_) | (with_reducible exact True.intro) | (with_reducible refine Flow.same_mk rfl rfl rfl ?_; go_simp; done) | (with_reducible exact Flow.same_un rfl rfl rfl) | (refine Flow.region_still mixed ?hB ?_; (case hB => decide +kernel)))
            go_at_call 13
            refine Calls.named fun wc hwc => ?_
            have hST := Sts.fr HST.out (show Fr (fun _ => False) w5 wc by rw [hwc]; (repeat' (first | with_reducible exact Fr.refl _ _ | with_reducible apply Fr.alloc | with_reducible apply Fr.drew | with_reducible apply Fr.drewN | (with_reducible refine Fr.setCell ?_ ?_ _))))
            clear HST hwc
            have HST := hid hST
            clear hST
            have hdi := do_is SB _ s kind who wc HST.out.sr HF.out.ok (HF.out.room (by omega)) HF.out.mem
            rw [← HRES.out] at hdi
            refine hdi.mono ?_
            clear hdi
            rintro e w6 ⟨rfl, R6, hm6, hv6⟩
            have hST := HST.out.mv hm6 hv6
            clear hm6 hv6 HST
            have HST := hid hST
            clear hST c0 c1
            dsimp only [leakV]
            go_wp2_with (first | ((with_reducible apply wpList_allocA (ty := 37) #[.int .i64 0, .int .i64 0, .int .i64 0, .int .i64 0]); (case zai => exact zLK); (case zac => rfl); intro wA hbA hfA hsA; have HBA := hid hbA; have HFA := hid hfA; clear hbA hfA hsA) | ((with_reducible apply wpList_storeA (b := w6.heap.size) (C := #[.int .i64 0, .int .i64 0, .int .i64 0, .int .i64 0]) (cells := #[.int .i64 (0), .int .i64 (0), .int .i64 (0), .int .i64 (0)]) (T := 37)); (case zsx => rfl); (case zsy => rfl); (case zsn => rfl); (case zsi => exact szLK); (case zs1 => rfl); (case zsb => exact HBA.out); intro wS6 hbS hfS hsS; have hST := Sts.new HST.out (fr_made HFA.out hfS (Nat.le_refl _)) hbS (Nat.le_refl _); clear HST HBA HFA hbS hfS hsS; have HST := hid hST; clear hST) | fail | still_step | (with_reducible refine wpStill_nil ?_) | (with_reducible refine Flow.Both.mk ?_ ?_) | (with_reducible exact True.intro) | (with_reducible refine Flow.same_mk rfl rfl rfl ?_; go_simp; done) | (with_reducible exact Flow.same_un rfl rfl rfl) | (refine Flow.region_still mixed ?hB ?_; (case hB => decide +kernel)))
            go_at_call 15
            refine Calls.named fun wc hwc => ?_
            have hST := Sts.fr HST.out (show Fr (fun _ => False) wS6 wc by rw [hwc]; (repeat' (first | with_reducible exact Fr.refl _ _ | with_reducible apply Fr.alloc | with_reducible apply Fr.drew | with_reducible apply Fr.drewN | (with_reducible refine Fr.setCell ?_ ?_ _))))
            clear HST hwc
            have HST := hid hST
            clear hST
            refine (eventsS_is SB _ s1 wc HST.out.sr (HF1.out.room (by omega))).mono ?_
            rintro e w7 ⟨ea2, ec2, rfl, ho7, hf7⟩
            have hST := HST.out.fr hf7
            clear HST hf7
            have HST := hid hST
            clear hST
            have hlk := HST.out.get (b := w6.heap.size) (C := #[.int .i64 (0), .int .i64 (0), .int .i64 (0), .int .i64 (0)]) (T := 37) (by simp)
            have c0_k := Blk.cell hlk 0
            have f0_k := Blk.free hlk 0
            have c1_k := Blk.cell hlk 1
            have f1_k := Blk.free hlk 1
            have c2_k := Blk.cell hlk 2
            have f2_k := Blk.free hlk 2
            have c3_k := Blk.cell hlk 3
            have f3_k := Blk.free hlk 3
            have l_k := Blk.lt hlk
            obtain ⟨c0, c1⟩ := HCELL.out _ HST.out.fr0
            clear hlk
            rw [he]
            clear ho7
            go_wp2_with (first | fail | still_step | (with_reducible refine wpStill_nil ?_) | (with_reducible refine Flow.Both.mk ?_ ?_) | (with_reducible exact True.intro) | (with_reducible refine Flow.same_mk rfl rfl rfl ?_; go_simp; done) | (with_reducible exact Flow.same_un rfl rfl rfl) | (refine Flow.region_still mixed ?hB ?_; (case hB => decide +kernel)))
            clear c0_k f0_k c1_k f1_k c2_k f2_k c3_k f3_k l_k
            go_at_call 17
            refine Calls.named fun wc hwc => ?_
            have hST := Sts.fr HST.out (show Fr (fun _ => False) w7 wc by rw [hwc]; (repeat' (first | with_reducible exact Fr.refl _ _ | with_reducible apply Fr.alloc | with_reducible apply Fr.drew | with_reducible apply Fr.drewN | (with_reducible refine Fr.setCell ?_ ?_ _))))
            clear HST hwc
            have HST := hid hST
            clear hST
            refine (count_is SB _ s1 who wc HST.out.sr).mono ?_
            rintro e w8 ⟨rfl, hf8⟩
            rw [← HC1.out]
            have hST := HST.out.fr hf8
            clear HST hf8
            have HST := hid hST
            clear hST
            clear c0 c1
            obtain ⟨c0, c1⟩ := HCELL.out _ HST.out.fr0
            go_wp2_with (first | fail | still_step | (with_reducible refine wpStill_nil ?_) | (with_reducible refine Flow.Both.mk ?_ ?_) | (with_reducible exact True.intro) | (with_reducible refine Flow.same_mk rfl rfl rfl ?_; go_simp; done) | (with_reducible exact Flow.same_un rfl rfl rfl) | (refine Flow.region_still mixed ?hB ?_; (case hB => decide +kernel)))
            go_roundw
            case rel => exact ⟨k + 1, _, s1, by omega, by go_num, (Sts.fr (HST.out.less (L2 := []) (fun e he => by cases he)) (show Fr (fun _ => False) w8 _ by (repeat' (first | with_reducible exact Fr.refl _ _ | with_reducible apply Fr.alloc | with_reducible apply Fr.drew | with_reducible apply Fr.drewN | (with_reducible refine Fr.setCell ?_ ?_ _))))), HF1.out, HW1.out⟩
            case measure => simp [intOf]; omega
          · skip
            go_wp2_with (first | fail | still_step | (with_reducible refine wpStill_nil ?_) | (with_reducible refine Flow.Both.mk ?_ ?_) | (with_reducible exact True.intro) | (with_reducible refine Flow.same_mk rfl rfl rfl ?_; go_simp; done) | (with_reducible exact Flow.same_un rfl rfl rfl) | (refine Flow.region_still mixed ?hB ?_; (case hB => decide +kernel)))
            go_at_call 15
            refine Calls.named fun wc hwc => ?_
            have hST := Sts.fr HST.out (show Fr (fun _ => False) w4 wc by rw [hwc]; (repeat' (first | with_reducible exact Fr.refl _ _ | with_reducible apply Fr.alloc | with_reducible apply Fr.drew | with_reducible apply Fr.drewN | (with_reducible refine Fr.setCell ?_ ?_ _))))
            clear HST hwc
            have HST := hid hST
            clear hST
            refine (eventsS_is SB _ s wc HST.out.sr (HF.out.room (by omega))).mono ?_
            rintro e w5 ⟨ea, ec, rfl, ho5, hf5⟩
            rw [← HEL.out]
            have hST := HST.out.fr hf5
            clear HST hf5
            have HST := hid hST
            clear hST
            clear ho5
            clear c0 c1
            obtain ⟨c0, c1⟩ := HCELL.out _ HST.out.fr0
            go_wp2_with (first | fail | still_step | (with_reducible refine wpStill_nil ?_) | (with_reducible refine Flow.Both.mk ?_ ?_) | (with_reducible exact True.intro) | (with_reducible refine Flow.same_mk rfl rfl rfl ?_; go_simp; done) | (with_reducible exact Flow.same_un rfl rfl rfl) | (refine Flow.region_still mixed ?hB ?_; (case hB => decide +kernel)))
            go_at_call 13
            refine Calls.named fun wc hwc => ?_
            have hST := Sts.fr HST.out (show Fr (fun _ => False) w5 wc by rw [hwc]; (repeat' (first | with_reducible exact Fr.refl _ _ | with_reducible apply Fr.alloc | with_reducible apply Fr.drew | with_reducible apply Fr.drewN | (with_reducible refine Fr.setCell ?_ ?_ _))))
            clear HST hwc
            have HST := hid hST
            clear hST
            have hdi := do_is SB _ s kind who wc HST.out.sr HF.out.ok (HF.out.room (by omega)) HF.out.mem
            rw [← HRES.out] at hdi
            refine hdi.mono ?_
            clear hdi
            rintro e w6 ⟨rfl, R6, hm6, hv6⟩
            have hST := HST.out.mv hm6 hv6
            clear hm6 hv6 HST
            have HST := hid hST
            clear hST c0 c1
            dsimp only [leakV]
            go_wp2_with (first | ((with_reducible apply wpList_allocA (ty := 37) #[.int .i64 0, .int .i64 0, .int .i64 0, .int .i64 0]); (case zai => exact zLK); (case zac => rfl); intro wA hbA hfA hsA; have HBA := hid hbA; have HFA := hid hfA; clear hbA hfA hsA) | ((with_reducible apply wpList_storeA (b := w6.heap.size) (C := #[.int .i64 0, .int .i64 0, .int .i64 0, .int .i64 0]) (cells := #[.int .i64 (0), .int .i64 (0), .int .i64 (0), .int .i64 (0)]) (T := 37)); (case zsx => rfl); (case zsy => rfl); (case zsn => rfl); (case zsi => exact szLK); (case zs1 => rfl); (case zsb => exact HBA.out); intro wS6 hbS hfS hsS; have hST := Sts.new HST.out (fr_made HFA.out hfS (Nat.le_refl _)) hbS (Nat.le_refl _); clear HST HBA HFA hbS hfS hsS; have HST := hid hST; clear hST) | fail | still_step | (with_reducible refine wpStill_nil ?_) | (with_reducible refine Flow.Both.mk ?_ ?_) | (with_reducible exact True.intro) | (with_reducible refine Flow.same_mk rfl rfl rfl ?_; go_simp; done) | (with_reducible exact Flow.same_un rfl rfl rfl) | (refine Flow.region_still mixed ?hB ?_; (case hB => decide +kernel)))
            go_at_call 15
            refine Calls.named fun wc hwc => ?_
            have hST := Sts.fr HST.out (show Fr (fun _ => False) wS6 wc by rw [hwc]; (repeat' (first | with_reducible exact Fr.refl _ _ | with_reducible apply Fr.alloc | with_reducible apply Fr.drew | with_reducible apply Fr.drewN | (with_reducible refine Fr.setCell ?_ ?_ _))))
            clear HST hwc
            have HST := hid hST
            clear hST
            refine (eventsS_is SB _ s1 wc HST.out.sr (HF1.out.room (by omega))).mono ?_
            rintro e w7 ⟨ea2, ec2, rfl, ho7, hf7⟩
            have hST := HST.out.fr hf7
            clear HST hf7
            have HST := hid hST
            clear hST
            have hlk := HST.out.get (b := w6.heap.size) (C := #[.int .i64 (0), .int .i64 (0), .int .i64 (0), .int .i64 (0)]) (T := 37) (by simp)
            have c0_k := Blk.cell hlk 0
            have f0_k := Blk.free hlk 0
            have c1_k := Blk.cell hlk 1
            have f1_k := Blk.free hlk 1
            have c2_k := Blk.cell hlk 2
            have f2_k := Blk.free hlk 2
            have c3_k := Blk.cell hlk 3
            have f3_k := Blk.free hlk 3
            have l_k := Blk.lt hlk
            obtain ⟨c0, c1⟩ := HCELL.out _ HST.out.fr0
            clear hlk
            rw [he]
            clear ho7
            go_wp2_with (first | fail | still_step | (with_reducible refine wpStill_nil ?_) | (with_reducible refine Flow.Both.mk ?_ ?_) | (with_reducible exact True.intro) | (with_reducible refine Flow.same_mk rfl rfl rfl ?_; go_simp; done) | (with_reducible exact Flow.same_un rfl rfl rfl) | (refine Flow.region_still mixed ?hB ?_; (case hB => decide +kernel)))
            clear c0_k f0_k c1_k f1_k c2_k f2_k c3_k f3_k l_k
            go_at_call 17
            refine Calls.named fun wc hwc => ?_
            have hST := Sts.fr HST.out (show Fr (fun _ => False) w7 wc by rw [hwc]; (repeat' (first | with_reducible exact Fr.refl _ _ | with_reducible apply Fr.alloc | with_reducible apply Fr.drew | with_reducible apply Fr.drewN | (with_reducible refine Fr.setCell ?_ ?_ _))))
            clear HST hwc
            have HST := hid hST
            clear hST
            refine (count_is SB _ s1 who wc HST.out.sr).mono ?_
            rintro e w8 ⟨rfl, hf8⟩
            rw [← HC1.out]
            have hST := HST.out.fr hf8
            clear HST hf8
            have HST := hid hST
            clear hST
            clear c0 c1
            obtain ⟨c0, c1⟩ := HCELL.out _ HST.out.fr0
            go_wp2_with (first | fail | still_step | (with_reducible refine wpStill_nil ?_) | (with_reducible refine Flow.Both.mk ?_ ?_) | (with_reducible exact True.intro) | (with_reducible refine Flow.same_mk rfl rfl rfl ?_; go_simp; done) | (with_reducible exact Flow.same_un rfl rfl rfl) | (refine Flow.region_still mixed ?hB ?_; (case hB => decide +kernel)))
            go_roundw
            case rel => exact ⟨k + 1, _, s1, by omega, by go_num, (Sts.fr (HST.out.less (L2 := []) (fun e he => by cases he)) (show Fr (fun _ => False) w8 _ by (repeat' (first | with_reducible exact Fr.refl _ _ | with_reducible apply Fr.alloc | with_reducible apply Fr.drew | with_reducible apply Fr.drewN | (with_reducible refine Fr.setCell ?_ ?_ _))))), HF1.out, HW1.out⟩
            case measure => simp [intOf]; omega
        · by_cases hcn : 0 < CN
          · have hk := hk5 hcn
            have hk2 : (kk == 5) = false := by simpa using hk
            clear hk5 hk
            go_wp2_with (first | fail | still_step | (with_reducible refine wpStill_nil ?_) | (with_reducible refine Flow.Both.mk ?_ ?_) | (with_reducible exact True.intro) | (with_reducible refine Flow.same_mk rfl rfl rfl ?_; go_simp; done) | (with_reducible exact Flow.same_un rfl rfl rfl) | (refine Flow.region_still mixed ?hB ?_; (case hB => decide +kernel)))
            go_at_call 15
            refine Calls.named fun wc hwc => ?_
            have hST := Sts.fr HST.out (show Fr (fun _ => False) w4 wc by rw [hwc]; (repeat' (first | with_reducible exact Fr.refl _ _ | with_reducible apply Fr.alloc | with_reducible apply Fr.drew | with_reducible apply Fr.drewN | (with_reducible refine Fr.setCell ?_ ?_ _))))
            clear HST hwc
            have HST := hid hST
            clear hST
            refine (eventsS_is SB _ s wc HST.out.sr (HF.out.room (by omega))).mono ?_
            rintro e w5 ⟨ea, ec, rfl, ho5, hf5⟩
            rw [← HEL.out]
            have hST := HST.out.fr hf5
            clear HST hf5
            have HST := hid hST
            clear hST
            clear ho5
            clear c0 c1
            obtain ⟨c0, c1⟩ := HCELL.out _ HST.out.fr0
            go_wp2_with (first | fail | still_step | (with_reducible refine wpStill_nil ?_) | (with_reducible refine Flow.Both.mk ?_ ?_) | (with_reducible exact True.intro) | (with_reducible refine Flow.same_mk rfl rfl rfl ?_; go_simp; done) | (with_reducible exact Flow.same_un rfl rfl rfl) | (refine Flow.region_still mixed ?hB ?_; (case hB => decide +kernel)))
            go_at_call 13
            refine Calls.named fun wc hwc => ?_
            have hST := Sts.fr HST.out (show Fr (fun _ => False) w5 wc by rw [hwc]; (repeat' (first | with_reducible exact Fr.refl _ _ | with_reducible apply Fr.alloc | with_reducible apply Fr.drew | with_reducible apply Fr.drewN | (with_reducible refine Fr.setCell ?_ ?_ _))))
            clear HST hwc
            have HST := hid hST
            clear hST
            have hdi := do_is SB _ s kind who wc HST.out.sr HF.out.ok (HF.out.room (by omega)) HF.out.mem
            rw [← HRES.out] at hdi
            refine hdi.mono ?_
            clear hdi
            rintro e w6 ⟨rfl, R6, hm6, hv6⟩
            have hST := HST.out.mv hm6 hv6
            clear hm6 hv6 HST
            have HST := hid hST
            clear hST c0 c1
            dsimp only [leakV]
            go_wp2_with (first | ((with_reducible apply wpList_allocA (ty := 37) #[.int .i64 0, .int .i64 0, .int .i64 0, .int .i64 0]); (case zai => exact zLK); (case zac => rfl); intro wA hbA hfA hsA; have HBA := hid hbA; have HFA := hid hfA; clear hbA hfA hsA) | ((with_reducible apply wpList_storeA (b := w6.heap.size) (C := #[.int .i64 0, .int .i64 0, .int .i64 0, .int .i64 0]) (cells := #[.int .i64 (kk), .int .i64 (who), .int .i64 (kw), .int .i64 (kn)]) (T := 37)); (case zsx => rfl); (case zsy => rfl); (case zsn => rfl); (case zsi => exact szLK); (case zs1 => rfl); (case zsb => exact HBA.out); intro wS6 hbS hfS hsS; have hST := Sts.new HST.out (fr_made HFA.out hfS (Nat.le_refl _)) hbS (Nat.le_refl _); clear HST HBA HFA hbS hfS hsS; have HST := hid hST; clear hST) | fail | still_step | (with_reducible refine wpStill_nil ?_) | (with_reducible refine Flow.Both.mk ?_ ?_) | (with_reducible exact True.intro) | (with_reducible refine Flow.same_mk rfl rfl rfl ?_; go_simp; done) | (with_reducible exact Flow.same_un rfl rfl rfl) | (refine Flow.region_still mixed ?hB ?_; (case hB => decide +kernel)))
            go_at_call 15
            refine Calls.named fun wc hwc => ?_
            have hST := Sts.fr HST.out (show Fr (fun _ => False) wS6 wc by rw [hwc]; (repeat' (first | with_reducible exact Fr.refl _ _ | with_reducible apply Fr.alloc | with_reducible apply Fr.drew | with_reducible apply Fr.drewN | (with_reducible refine Fr.setCell ?_ ?_ _))))
            clear HST hwc
            have HST := hid hST
            clear hST
            refine (eventsS_is SB _ s1 wc HST.out.sr (HF1.out.room (by omega))).mono ?_
            rintro e w7 ⟨ea2, ec2, rfl, ho7, hf7⟩
            have hST := HST.out.fr hf7
            clear HST hf7
            have HST := hid hST
            clear hST
            have hlk := HST.out.get (b := w6.heap.size) (C := #[.int .i64 (kk), .int .i64 (who), .int .i64 (kw), .int .i64 (kn)]) (T := 37) (by simp)
            have c0_k := Blk.cell hlk 0
            have f0_k := Blk.free hlk 0
            have c1_k := Blk.cell hlk 1
            have f1_k := Blk.free hlk 1
            have c2_k := Blk.cell hlk 2
            have f2_k := Blk.free hlk 2
            have c3_k := Blk.cell hlk 3
            have f3_k := Blk.free hlk 3
            have l_k := Blk.lt hlk
            obtain ⟨c0, c1⟩ := HCELL.out _ HST.out.fr0
            clear hlk
            rw [he]
            clear ho7
            go_wp2_with (first | fail | still_step | (with_reducible refine wpStill_nil ?_) | (with_reducible refine Flow.Both.mk ?_ ?_) | (with_reducible exact True.intro) | (with_reducible refine Flow.same_mk rfl rfl rfl ?_; go_simp; done) | (with_reducible exact Flow.same_un rfl rfl rfl) | (refine Flow.region_still mixed ?hB ?_; (case hB => decide +kernel)))
            clear c0_k f0_k c1_k f1_k c2_k f2_k c3_k f3_k l_k
            go_at_call 17
            refine Calls.named fun wc hwc => ?_
            have hST := Sts.fr HST.out (show Fr (fun _ => False) w7 wc by rw [hwc]; (repeat' (first | with_reducible exact Fr.refl _ _ | with_reducible apply Fr.alloc | with_reducible apply Fr.drew | with_reducible apply Fr.drewN | (with_reducible refine Fr.setCell ?_ ?_ _))))
            clear HST hwc
            have HST := hid hST
            clear hST
            refine (count_is SB _ s1 who wc HST.out.sr).mono ?_
            rintro e w8 ⟨rfl, hf8⟩
            rw [← HC1.out]
            have hST := HST.out.fr hf8
            clear HST hf8
            have HST := hid hST
            clear hST
            clear c0 c1
            obtain ⟨c0, c1⟩ := HCELL.out _ HST.out.fr0
            go_wp2_with (first | fail | still_step | (with_reducible refine wpStill_nil ?_) | (with_reducible refine Flow.Both.mk ?_ ?_) | (with_reducible exact True.intro) | (with_reducible refine Flow.same_mk rfl rfl rfl ?_; go_simp; done) | (with_reducible exact Flow.same_un rfl rfl rfl) | (refine Flow.region_still mixed ?hB ?_; (case hB => decide +kernel)))
            go_roundw
            case rel => exact ⟨k + 1, _, s1, by omega, by go_num, (Sts.fr (HST.out.less (L2 := []) (fun e he => by cases he)) (show Fr (fun _ => False) w8 _ by (repeat' (first | with_reducible exact Fr.refl _ _ | with_reducible apply Fr.alloc | with_reducible apply Fr.drew | with_reducible apply Fr.drewN | (with_reducible refine Fr.setCell ?_ ?_ _))))), HF1.out, HW1.out⟩
            case measure => simp [intOf]; omega
          · clear hk5
            go_wp2_with (first | fail | still_step | (with_reducible refine wpStill_nil ?_) | (with_reducible refine Flow.Both.mk ?_ ?_) | (with_reducible exact True.intro) | (with_reducible refine Flow.same_mk rfl rfl rfl ?_; go_simp; done) | (with_reducible exact Flow.same_un rfl rfl rfl) | (refine Flow.region_still mixed ?hB ?_; (case hB => decide +kernel)))
            go_at_call 15
            refine Calls.named fun wc hwc => ?_
            have hST := Sts.fr HST.out (show Fr (fun _ => False) w4 wc by rw [hwc]; (repeat' (first | with_reducible exact Fr.refl _ _ | with_reducible apply Fr.alloc | with_reducible apply Fr.drew | with_reducible apply Fr.drewN | (with_reducible refine Fr.setCell ?_ ?_ _))))
            clear HST hwc
            have HST := hid hST
            clear hST
            refine (eventsS_is SB _ s wc HST.out.sr (HF.out.room (by omega))).mono ?_
            rintro e w5 ⟨ea, ec, rfl, ho5, hf5⟩
            rw [← HEL.out]
            have hST := HST.out.fr hf5
            clear HST hf5
            have HST := hid hST
            clear hST
            clear ho5
            clear c0 c1
            obtain ⟨c0, c1⟩ := HCELL.out _ HST.out.fr0
            go_wp2_with (first | fail | still_step | (with_reducible refine wpStill_nil ?_) | (with_reducible refine Flow.Both.mk ?_ ?_) | (with_reducible exact True.intro) | (with_reducible refine Flow.same_mk rfl rfl rfl ?_; go_simp; done) | (with_reducible exact Flow.same_un rfl rfl rfl) | (refine Flow.region_still mixed ?hB ?_; (case hB => decide +kernel)))
            go_at_call 13
            refine Calls.named fun wc hwc => ?_
            have hST := Sts.fr HST.out (show Fr (fun _ => False) w5 wc by rw [hwc]; (repeat' (first | with_reducible exact Fr.refl _ _ | with_reducible apply Fr.alloc | with_reducible apply Fr.drew | with_reducible apply Fr.drewN | (with_reducible refine Fr.setCell ?_ ?_ _))))
            clear HST hwc
            have HST := hid hST
            clear hST
            have hdi := do_is SB _ s kind who wc HST.out.sr HF.out.ok (HF.out.room (by omega)) HF.out.mem
            rw [← HRES.out] at hdi
            refine hdi.mono ?_
            clear hdi
            rintro e w6 ⟨rfl, R6, hm6, hv6⟩
            have hST := HST.out.mv hm6 hv6
            clear hm6 hv6 HST
            have HST := hid hST
            clear hST c0 c1
            dsimp only [leakV]
            go_wp2_with (first | ((with_reducible apply wpList_allocA (ty := 37) #[.int .i64 0, .int .i64 0, .int .i64 0, .int .i64 0]); (case zai => exact zLK); (case zac => rfl); intro wA hbA hfA hsA; have HBA := hid hbA; have HFA := hid hfA; clear hbA hfA hsA) | ((with_reducible apply wpList_storeA (b := w6.heap.size) (C := #[.int .i64 0, .int .i64 0, .int .i64 0, .int .i64 0]) (cells := #[.int .i64 (kk), .int .i64 (who), .int .i64 (kw), .int .i64 (kn)]) (T := 37)); (case zsx => rfl); (case zsy => rfl); (case zsn => rfl); (case zsi => exact szLK); (case zs1 => rfl); (case zsb => exact HBA.out); intro wS6 hbS hfS hsS; have hST := Sts.new HST.out (fr_made HFA.out hfS (Nat.le_refl _)) hbS (Nat.le_refl _); clear HST HBA HFA hbS hfS hsS; have HST := hid hST; clear hST) | fail | still_step | (with_reducible refine wpStill_nil ?_) | (with_reducible refine Flow.Both.mk ?_ ?_) | (with_reducible exact True.intro) | (with_reducible refine Flow.same_mk rfl rfl rfl ?_; go_simp; done) | (with_reducible exact Flow.same_un rfl rfl rfl) | (refine Flow.region_still mixed ?hB ?_; (case hB => decide +kernel)))
            go_at_call 15
            refine Calls.named fun wc hwc => ?_
            have hST := Sts.fr HST.out (show Fr (fun _ => False) wS6 wc by rw [hwc]; (repeat' (first | with_reducible exact Fr.refl _ _ | with_reducible apply Fr.alloc | with_reducible apply Fr.drew | with_reducible apply Fr.drewN | (with_reducible refine Fr.setCell ?_ ?_ _))))
            clear HST hwc
            have HST := hid hST
            clear hST
            refine (eventsS_is SB _ s1 wc HST.out.sr (HF1.out.room (by omega))).mono ?_
            rintro e w7 ⟨ea2, ec2, rfl, ho7, hf7⟩
            have hST := HST.out.fr hf7
            clear HST hf7
            have HST := hid hST
            clear hST
            have hlk := HST.out.get (b := w6.heap.size) (C := #[.int .i64 (kk), .int .i64 (who), .int .i64 (kw), .int .i64 (kn)]) (T := 37) (by simp)
            have c0_k := Blk.cell hlk 0
            have f0_k := Blk.free hlk 0
            have c1_k := Blk.cell hlk 1
            have f1_k := Blk.free hlk 1
            have c2_k := Blk.cell hlk 2
            have f2_k := Blk.free hlk 2
            have c3_k := Blk.cell hlk 3
            have f3_k := Blk.free hlk 3
            have l_k := Blk.lt hlk
            obtain ⟨c0, c1⟩ := HCELL.out _ HST.out.fr0
            clear hlk
            rw [he]
            clear ho7
            go_wp2_with (first | fail | still_step | (with_reducible refine wpStill_nil ?_) | (with_reducible refine Flow.Both.mk ?_ ?_) | (with_reducible exact True.intro) | (with_reducible refine Flow.same_mk rfl rfl rfl ?_; go_simp; done) | (with_reducible exact Flow.same_un rfl rfl rfl) | (refine Flow.region_still mixed ?hB ?_; (case hB => decide +kernel)))
            clear c0_k f0_k c1_k f1_k c2_k f2_k c3_k f3_k l_k
            go_at_call 17
            refine Calls.named fun wc hwc => ?_
            have hST := Sts.fr HST.out (show Fr (fun _ => False) w7 wc by rw [hwc]; (repeat' (first | with_reducible exact Fr.refl _ _ | with_reducible apply Fr.alloc | with_reducible apply Fr.drew | with_reducible apply Fr.drewN | (with_reducible refine Fr.setCell ?_ ?_ _))))
            clear HST hwc
            have HST := hid hST
            clear hST
            refine (count_is SB _ s1 who wc HST.out.sr).mono ?_
            rintro e w8 ⟨rfl, hf8⟩
            rw [← HC1.out]
            have hST := HST.out.fr hf8
            clear HST hf8
            have HST := hid hST
            clear hST
            clear c0 c1
            obtain ⟨c0, c1⟩ := HCELL.out _ HST.out.fr0
            go_wp2_with (first | fail | still_step | (with_reducible refine wpStill_nil ?_) | (with_reducible refine Flow.Both.mk ?_ ?_) | (with_reducible exact True.intro) | (with_reducible refine Flow.same_mk rfl rfl rfl ?_; go_simp; done) | (with_reducible exact Flow.same_un rfl rfl rfl) | (refine Flow.region_still mixed ?hB ?_; (case hB => decide +kernel)))
            go_roundw
            case rel => exact ⟨k + 1, _, s1, by omega, by go_num, (Sts.fr (HST.out.less (L2 := []) (fun e he => by cases he)) (show Fr (fun _ => False) w8 _ by (repeat' (first | with_reducible exact Fr.refl _ _ | with_reducible apply Fr.alloc | with_reducible apply Fr.drew | with_reducible apply Fr.drewN | (with_reducible refine Fr.setCell ?_ ?_ _))))), HF1.out, HW1.out⟩
            case measure => simp [intOf]; omega
        · have hlen : s1.x.events.length = EL + 1 := by rw [he]; simp; exact HEL.out.symm
          have HE := hid he
          obtain ⟨ek, et, en⟩ := e
          clear he
          go_wp2_with (first | fail | still_step | (with_reducible refine wpStill_nil ?_) | (with_reducible refine Flow.Both.mk ?_ ?_) | (with_reducible exact True.intro) | (with_reducible refine Flow.same_mk rfl rfl rfl ?_; go_simp; done) | (with_reducible exact Flow.same_un rfl rfl rfl) | (refine Flow.region_still mixed ?hB ?_; (case hB => decide +kernel)))
          go_at_call 15
          refine Calls.named fun wc hwc => ?_
          have hST := Sts.fr HST.out (show Fr (fun _ => False) w4 wc by rw [hwc]; (repeat' (first | with_reducible exact Fr.refl _ _ | with_reducible apply Fr.alloc | with_reducible apply Fr.drew | with_reducible apply Fr.drewN | (with_reducible refine Fr.setCell ?_ ?_ _))))
          clear HST hwc
          have HST := hid hST
          clear hST
          refine (eventsS_is SB _ s wc HST.out.sr (HF.out.room (by omega))).mono ?_
          rintro e w5 ⟨ea, ec, rfl, ho5, hf5⟩
          rw [← HEL.out]
          have hST := HST.out.fr hf5
          clear HST hf5
          have HST := hid hST
          clear hST
          clear ho5
          clear c0 c1
          obtain ⟨c0, c1⟩ := HCELL.out _ HST.out.fr0
          go_wp2_with (first | fail | still_step | (with_reducible refine wpStill_nil ?_) | (with_reducible refine Flow.Both.mk ?_ ?_) | (with_reducible exact True.intro) | (with_reducible refine Flow.same_mk rfl rfl rfl ?_; go_simp; done) | (with_reducible exact Flow.same_un rfl rfl rfl) | (refine Flow.region_still mixed ?hB ?_; (case hB => decide +kernel)))
          go_at_call 13
          refine Calls.named fun wc hwc => ?_
          have hST := Sts.fr HST.out (show Fr (fun _ => False) w5 wc by rw [hwc]; (repeat' (first | with_reducible exact Fr.refl _ _ | with_reducible apply Fr.alloc | with_reducible apply Fr.drew | with_reducible apply Fr.drewN | (with_reducible refine Fr.setCell ?_ ?_ _))))
          clear HST hwc
          have HST := hid hST
          clear hST
          have hdi := do_is SB _ s kind who wc HST.out.sr HF.out.ok (HF.out.room (by omega)) HF.out.mem
          rw [← HRES.out] at hdi
          refine hdi.mono ?_
          clear hdi
          rintro e w6 ⟨rfl, R6, hm6, hv6⟩
          have hST := HST.out.mv hm6 hv6
          clear hm6 hv6 HST
          have HST := hid hST
          clear hST c0 c1
          dsimp only [leakV]
          go_wp2_with (first | ((with_reducible apply wpList_allocA (ty := 37) #[.int .i64 0, .int .i64 0, .int .i64 0, .int .i64 0]); (case zai => exact zLK); (case zac => rfl); intro wA hbA hfA hsA; have HBA := hid hbA; have HFA := hid hfA; clear hbA hfA hsA) | ((with_reducible apply wpList_storeA (b := w6.heap.size) (C := #[.int .i64 0, .int .i64 0, .int .i64 0, .int .i64 0]) (cells := #[.int .i64 (5), .int .i64 (who), .int .i64 (ek), .int .i64 (en)]) (T := 37)); (case zsx => rfl); (case zsy => rfl); (case zsn => rfl); (case zsi => exact szLK); (case zs1 => rfl); (case zsb => exact HBA.out); intro wS6 hbS hfS hsS; have hST := Sts.new HST.out (fr_made HFA.out hfS (Nat.le_refl _)) hbS (Nat.le_refl _); clear HST HBA HFA hbS hfS hsS; have HST := hid hST; clear hST) | fail | still_step | (with_reducible refine wpStill_nil ?_) | (with_reducible refine Flow.Both.mk ?_ ?_) | (with_reducible exact True.intro) | (with_reducible refine Flow.same_mk rfl rfl rfl ?_; go_simp; done) | (with_reducible exact Flow.same_un rfl rfl rfl) | (refine Flow.region_still mixed ?hB ?_; (case hB => decide +kernel)))
          go_at_call 15
          refine Calls.named fun wc hwc => ?_
          have hST := Sts.fr HST.out (show Fr (fun _ => False) wS6 wc by rw [hwc]; (repeat' (first | with_reducible exact Fr.refl _ _ | with_reducible apply Fr.alloc | with_reducible apply Fr.drew | with_reducible apply Fr.drewN | (with_reducible refine Fr.setCell ?_ ?_ _))))
          clear HST hwc
          have HST := hid hST
          clear hST
          refine (eventsS_is SB _ s1 wc HST.out.sr (HF1.out.room (by omega))).mono ?_
          rintro e w7 ⟨ea2, ec2, rfl, ho7, hf7⟩
          have hST := HST.out.fr hf7
          clear HST hf7
          have HST := hid hST
          clear hST
          have hlk := HST.out.get (b := w6.heap.size) (C := #[.int .i64 (5), .int .i64 (who), .int .i64 (ek), .int .i64 (en)]) (T := 37) (by simp)
          have c0_k := Blk.cell hlk 0
          have f0_k := Blk.free hlk 0
          have c1_k := Blk.cell hlk 1
          have f1_k := Blk.free hlk 1
          have c2_k := Blk.cell hlk 2
          have f2_k := Blk.free hlk 2
          have c3_k := Blk.cell hlk 3
          have f3_k := Blk.free hlk 3
          have l_k := Blk.lt hlk
          obtain ⟨c0, c1⟩ := HCELL.out _ HST.out.fr0
          clear hlk
          rw [hlen] at ho7 ⊢
          obtain ⟨er, eo, rfl, _, hce⟩ := ho7.vw.cell (fun h => by have := evC_len s1.x.events; rw [h] at this; simp at this; omega)
          have hg := evC_get s1.x.events EL (by omega)
          have hge : s1.x.events[EL]'(by omega) = ⟨ek, et, en⟩ := by
            have : s1.x.events[EL]? = some ⟨ek, et, en⟩ := by rw [HE.out, HEL.out]; simp
            exact (List.getElem?_eq_some_iff.1 this).2
          rw [hge] at hg
          have e0 := hce _ _ hg.1
          have e2 := hce _ _ hg.2.2
          rw [← Nat.add_assoc] at e2
          have hg1 : ((EL : Nat) : Int) < ((EL : Nat) : Int) + 1 := by omega
          clear ho7 hce hg hge hlen
          go_wp2_with (first | fail | still_step | (with_reducible refine wpStill_nil ?_) | (with_reducible refine Flow.Both.mk ?_ ?_) | (with_reducible exact True.intro) | (with_reducible refine Flow.same_mk rfl rfl rfl ?_; go_simp; done) | (with_reducible exact Flow.same_un rfl rfl rfl) | (refine Flow.region_still mixed ?hB ?_; (case hB => decide +kernel)))
          clear c0_k f0_k c1_k f1_k c2_k f2_k c3_k f3_k l_k
          go_at_call 17
          refine Calls.named fun wc hwc => ?_
          have hST := Sts.fr HST.out (show Fr (fun _ => False) w7 wc by rw [hwc]; (repeat' (first | with_reducible exact Fr.refl _ _ | with_reducible apply Fr.alloc | with_reducible apply Fr.drew | with_reducible apply Fr.drewN | (with_reducible refine Fr.setCell ?_ ?_ _))))
          clear HST hwc
          have HST := hid hST
          clear hST
          refine (count_is SB _ s1 who wc HST.out.sr).mono ?_
          rintro e w8 ⟨rfl, hf8⟩
          rw [← HC1.out]
          have hST := HST.out.fr hf8
          clear HST hf8
          have HST := hid hST
          clear hST
          clear c0 c1
          obtain ⟨c0, c1⟩ := HCELL.out _ HST.out.fr0
          go_wp2_with (first | fail | still_step | (with_reducible refine wpStill_nil ?_) | (with_reducible refine Flow.Both.mk ?_ ?_) | (with_reducible exact True.intro) | (with_reducible refine Flow.same_mk rfl rfl rfl ?_; go_simp; done) | (with_reducible exact Flow.same_un rfl rfl rfl) | (refine Flow.region_still mixed ?hB ?_; (case hB => decide +kernel)))
          go_roundw
          case rel => exact ⟨k + 1, _, s1, by omega, by go_num, (Sts.fr (HST.out.less (L2 := []) (fun e he => by cases he)) (show Fr (fun _ => False) w8 _ by (repeat' (first | with_reducible exact Fr.refl _ _ | with_reducible apply Fr.alloc | with_reducible apply Fr.drew | with_reducible apply Fr.drewN | (with_reducible refine Fr.setCell ?_ ?_ _))))), HF1.out, HW1.out⟩
          case measure => simp [intOf]; omega
      · obtain rfl : k = l.length := by omega
        clear HV hlt hk
        go_wp2_with (first | fail | still_step | (with_reducible refine wpStill_nil ?_) | (with_reducible refine Flow.Both.mk ?_ ?_) | (with_reducible exact True.intro) | (with_reducible refine Flow.same_mk rfl rfl rfl ?_; go_simp; done) | (with_reducible exact Flow.same_un rfl rfl rfl) | (refine Flow.region_still mixed ?hB ?_; (case hB => decide +kernel)))
        go_ret
        exact ⟨rfl, (Sts.fr HST.out (show Fr (fun _ => False) wr _ by (repeat' (first | with_reducible exact Fr.refl _ _ | with_reducible apply Fr.alloc | with_reducible apply Fr.drew | with_reducible apply Fr.drewN | (with_reducible refine Fr.setCell ?_ ?_ _))))).fr0⟩
end Go.Proofs.Ytbfeopakmjcapaa.Sp
