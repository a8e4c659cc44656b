/-
  A flush of a machine that guesses.
-/
import Derived.Test.YtbfeopakmjcapaaSpB
set_option linter.unusedVariables false
set_option linter.unusedSimpArgs false
set_option maxHeartbeats 4000000
set_option maxRecDepth 8000
namespace Go.Proofs.Ytbfeopakmjcapaa.Sp
open Go.RowKit Go.Proofs.Ytbfeopakmjcapaa.Seq Go.Proofs.Ytbfeopakmjcapaa.Tso
attribute [local irreducible] wpStill wpList Calls CallsIn

theorem sflush_is (SB : Nat) (R : Nat → Prop) (s : SM) (n : Int) (o : Op) (w : World) (h : SR w R SB s) (hg : s.guesses n = some o) (hln : o.1.length ≤ 1000) :
    Calls Try.prog 34 #[.pointer (some ⟨SB, 0, none⟩), .int .i64 n] w fun e w' => e = .returned (.tuple #[leakV (s.flush n o).2.1, .bool (s.flush n o).2.2]) ∧ ∃ R', SR w' R' SB (s.flush n o).1 ∧ Mv R R' w w' := by
  obtain ⟨res, hrs⟩ : ∃ r, r = s.flush n o := ⟨_, rfl⟩
  rw [← hrs]
  have HRS := hid hrs
  clear hrs
  obtain ⟨B, OB, oc, ids, D, A, C, V, G, Rm, h⟩ := h
  have HH := hid h
  obtain ⟨k, rfl, hgo⟩ := guesses_get hg
  have hk := (List.getElem?_eq_some_iff.1 hgo).1
  have hv := h.vals k _ hgo
  have HV := hid hv
  have HGO := hid hgo
  have h0 : w.cell? ⟨SB, 0, none⟩ = some (.pointer (some ⟨B, 0, none⟩)) := h.head.cell 0
  have h1 : w.cell? ⟨SB, 1, none⟩ = some (.slice (some ⟨OB, 0, none⟩) s.op.length oc) := h.head.cell 1
  have h2 : w.cell? ⟨SB, 2, none⟩ = some (.int .i64 s.window) := h.head.cell 2
  have c0 : w.cell? ⟨OB, k * 2, none⟩ = some (.slice (A k) o.1.length (C k)) := by rw [h.opens.cell]; exact (h.cells k _ hgo).1
  have c1 : w.cell? ⟨OB, k * 2 + 1, none⟩ = some (.int .i64 o.2) := by rw [h.opens.cell]; exact (h.cells k _ hgo).2
  have f1 := h.opens.free (k * 2 + 1)
  have lsb := h.head.lt
  have lob := h.opens.lt
  have hgs := fun (w1 : World) (hf : Fr (fun _ => False) w w1) => guesses_is SB B OB oc s.op.length (k : Int) s.window w1 (hf.cell h0 (fun h => h)) (hf.cell h1 (fun h => h))
  have HG := hid hgs
  obtain ⟨d4, hd4, hd5⟩ := unLK
  have HL := hid (Blk.new w #[.int .i64 0, .int .i64 0, .int .i64 0, .int .i64 0] 37)
  obtain ⟨SL, hSL⟩ : ∃ SL, SL = s.op.length := ⟨_, rfl⟩
  have HSL := hid hSL
  clear h hgo hg hv hgs h1 hSL
  obtain ⟨ol, os⟩ := o
  dsimp only at c0 c1
  have hres := fun (C : Array Value) (hC : C.size = 4) (tmps : Array Value) (w : World) (b : Nat) (ha : tmps.getD 4 undef = .pointer (some ⟨b, 0, none⟩)) (hb : Blk w b C 37) => results_ct (P := Try.prog) Try.results34 ha hb hd4 hd5 (by rw [hC]; exact szLK)
  have HRES := hid hres
  clear hres
  go_enter Try.func34, Try.ntmps34
  go_wp2_with (first | still_step | (with_reducible first | refine wpStill_nil ?_ | refine Flow.Both.mk ?_ ?_ | exact True.intro) | (with_reducible refine Flow.same_mk rfl rfl rfl ?_; go_simp; done) | (with_reducible exact Flow.same_un rfl rfl rfl) | (refine Flow.region_still mixed ?hB ?_; (case hB => decide +kernel)))
  go_at_call 38
  refine (HG.out _ (by (with_reducible repeat' (first | exact Fr.refl _ _ | apply Fr.alloc | apply Fr.drew | apply Fr.drewN | refine Fr.setCell ?_ ?_ _)))).mono ?_
  rintro e w1 ⟨rfl, hf⟩
  rw [if_pos (by omega), show ((k : Nat) : Int).toNat = k by simp]
  have hf1 := (show Fr (fun _ => False) w _ by (with_reducible repeat' (first | exact Fr.refl _ _ | apply Fr.alloc | apply Fr.drew | apply Fr.drewN | refine Fr.setCell ?_ ?_ _))).trans hf (fun _ _ h => h)
  have HF1 := hid hf1
  have HL1 := hid (HL.out.fr hf (fun h => h))
  have h0_ := Fr.cell hf1 h0 (fun h => h)
  clear h0
  have h0 := h0_
  clear h0_
  have h2_ := Fr.cell hf1 h2 (fun h => h)
  clear h2
  have h2 := h2_
  clear h2_
  have c0_ := Fr.cell hf1 c0 (fun h => h)
  clear c0
  have c0 := c0_
  clear c0_
  have c1_ := Fr.cell hf1 c1 (fun h => h)
  clear c1
  have c1 := c1_
  clear c1_
  have lob1 : OB < w1.heap.size := World.block_lt_of_cell? _ _ c0
  have lsb1 : SB < w1.heap.size := World.block_lt_of_cell? _ _ h0
  have hrow := HV.out.2.2.fr hf1 (fun _ _ h => h)
  have HROW := hid hrow
  have hrs := HRS.out
  unfold SM.flush at hrs
  dsimp only at hrs
  clear hf hf1 HL HG hrow
  (try dsimp only at hln)
  obtain ⟨L, hL⟩ : ∃ L, L = ol.length := ⟨_, rfl⟩
  have HLL := hid hL.symm
  have hLn : L ≤ 1000 := by (try dsimp only at hln); omega
  clear hln
  have HVL := hid (show (V k).length = L by have := congrArg List.length HV.out.1; (try dsimp only at this); rw [List.length_map] at this; omega)
  by_cases hl : 0 < L
  · obtain ⟨g, ol', hol⟩ : ∃ g r, ol = g :: r := by
      cases ol with
      | nil => simp at hL; omega
      | cons g r => exact ⟨g, r, rfl⟩
    have hhd : (ol.headD default).kept = g.kept := by rw [hol]; rfl
    have hg16 : ∀ p ∈ V k, p.1.regs.length = 16 := fun p hp => (HV.out.2.1 p hp).2
    obtain ⟨p0, hp0, hpg⟩ : ∃ p0, (V k)[0]? = some p0 ∧ p0.1 = g := by
      have h1 := HV.out.1
      (try dsimp only at h1)
      rw [hol] at h1
      cases hv : V k with
      | nil => rw [hv] at h1; cases h1
      | cons p r => rw [hv] at h1; simp at h1; exact ⟨p, rfl, h1.1⟩
    have hc19 := gsC_get hg16 hp0 (gC_kept (hg16 _ (List.mem_of_getElem? hp0)))
    rw [hpg] at hc19
    obtain ⟨r, off, hA, hGr, hcell⟩ := HROW.out.vw.cell (fun e => by rw [e] at hc19; simp at hc19)
    have ck : w1.cell? ⟨r, off + 19, none⟩ = some (.int .i64 g.kept) := hcell 19 _ (by simpa using hc19)
    have lrk := World.block_lt_of_cell? _ _ ck
    dsimp only at lrk
    rw [hhd] at hrs
    rw [← hL] at hrs c0
    rw [hA] at c0
    have HAK := hid hA
    clear hcell hc19 hp0 hpg hg16 hhd hL hGr hol
    generalize g.kept = gk at *
    by_cases hz : gk = 0
    · subst hz
      rw [if_pos ⟨hl, rfl⟩] at hrs
      subst hrs
      go_wp2_with (first | ((with_reducible apply wpList_storeA (b := w.heap.size) (C := #[.int .i64 0, .int .i64 0, .int .i64 0, .int .i64 0]) (T := 37)); (case zsx => rfl); (case zsy => rfl); (case zsn => rfl); (case zsi => exact szLK); (case zs1 => rfl); (case zsb => ((repeat' (first | with_reducible exact HL1.out | with_reducible exact HL2.out | with_reducible exact HL3.out | with_reducible exact HL4.out | with_reducible apply Blk.drew | with_reducible apply Blk.alloc | (with_reducible refine Blk.set_ne ?_ ?_ _))); all_goals (first | omega | (simp; omega) | (simp; done)))); intro w9 hb9 hf9 hs9; have HB9 := hid hb9; have HF9 := hid hf9; have HSZ9 := hid hs9; clear hb9 hf9 hs9) | still_step | (with_reducible first | refine wpStill_nil ?_ | refine Flow.Both.mk ?_ ?_ | exact True.intro) | (with_reducible refine Flow.same_mk rfl rfl rfl ?_; go_simp; done) | (with_reducible exact Flow.same_un rfl rfl rfl) | (refine Flow.region_still mixed ?hB ?_; (case hB => decide +kernel)))
      refine bodyPost_ret (HRES.out _ rfl _ _ _ rfl HB9.out) rfl ?_
      have hF9 : Fr (fun _ => False) w w9 := fr_weaken (by (repeat' (first | with_reducible exact HF1.out | with_reducible apply Fr.alloc | with_reducible apply Fr.drew | (with_reducible refine Fr.setCell ?_ ?_ _)))) HF9.out (Nat.le_refl _)
      exact ⟨rfl, R, SR.fr ⟨B, OB, oc, ids, D, A, C, V, G, Rm, HH.out⟩ hF9 (fun _ _ h => h), Mv.of_fr hF9⟩
    · have hz2 : (gk == 0) = false := by simpa using hz
      rw [if_neg (fun h => hz h.2)] at hrs
      go_wp2_with (first | still_step | (with_reducible first | refine wpStill_nil ?_ | refine Flow.Both.mk ?_ ?_ | exact True.intro) | (with_reducible refine Flow.same_mk rfl rfl rfl ?_; go_simp; done) | (with_reducible exact Flow.same_un rfl rfl rfl) | (refine Flow.region_still mixed ?hB ?_; (case hB => decide +kernel)))
      rw [← hA] at c0
      go_at_call 58
      refine Calls.named fun wc hwc => ?_
      have hfc : Fr (fun _ => False) w1 wc := by rw [hwc]; (with_reducible repeat' (first | exact Fr.refl _ _ | apply Fr.alloc | apply Fr.drew | apply Fr.drewN | refine Fr.setCell ?_ ?_ _))
      have hfw := HF1.out.trans hfc (fun _ _ h => h)
      have HFC := hid hfc
      have HFW := hid hfw
      have hwq := hwc
      clear hwc hfc hfw
      refine (flush_is B Rm ids s.x (k : Int) wc (HH.out.mr.fr HFW.out (fun _ _ h => h))).mono ?_
      rintro e w3 ⟨rfl, Rm3, hm3, hv3⟩
      have hvv := (Mv.of_fr (R := Rm) HFW.out).trans hv3
      have HV3 := hid hvv
      have HM3 := hid hm3
      have hfr3 := (HFC.out.mono (S2 := Rm) (fun _ _ h => h.elim)).trans hv3.2.2 (fun _ _ h => h)
      have hlw := HL1.out.lt
      have hnw : ¬ Rm3 w.heap.size := fun hz => by
        rcases hv3.2.1 _ hz with h' | h'
        · have := HH.out.lt _ (HH.out.inM _ h'); omega
        · have := HFC.out.size; omega
      have HNW := hid hnw
      have HL4 := hid (HL1.out.fr hfr3 (fun hz => by have := HH.out.lt _ (HH.out.inM _ hz); omega))
      have h0 := hfr3.cell h0 HH.out.notS.1
      have c0 := hfr3.cell c0 HH.out.notS.2
      have c1 := hfr3.cell c1 HH.out.notS.2
      have hob := (HH.out.opens.fr hvv.2.2 HH.out.notS.2)
      have HOB := hid hob
      have hnob : ¬ Rm3 OB := fun hz => by
        rcases hvv.2.1 _ hz with h' | h'
        · exact HH.out.notS.2 h'
        · omega
      have HNOB := hid hnob
      have l3 := HL4.out.lt
      have hlob3 : OB < w3.heap.size := World.block_lt_of_cell? _ _ c0
      have HM3L := hid hm3.lt
      have HROW3 := hid (show OwnAt w3 91 21 (G k) (A k) L (C k) (gsC (V k)) from by have h := HV.out.2.2.fr hvv.2.2 (HH.out.notG k); rw [show (ol, os).1.length = L from HLL.out] at h; exact h)
      obtain ⟨⟨x', lk, is⟩, hres⟩ : ∃ r, r = s.x.flush (k : Int) := ⟨_, rfl⟩
      rw [← hres] at HM3 hrs ⊢
      obtain ⟨kk, kt, kw, kn⟩ := lk
      dsimp only [leakV] at HM3 hrs ⊢
      clear hres hm3 hv3 hvv hfr3 hnw hob hnob HFC HFW HL1 HF1 HROW
      cases is with
      | false =>
        rw [if_neg (by simp)] at hrs
        subst hrs
        go_wp2_with (first | ((with_reducible apply wpList_allocA (ty := 37) #[.int .i64 0, .int .i64 0, .int .i64 0, .int .i64 0]); (case zai => exact zLK); (case zac => rfl); intro wA5 hbA hfA hsA; have HBA5 := hid hbA; have HFA5 := hid hfA; clear hbA hfA hsA) | (((with_reducible apply wpList_storeA (b := w3.heap.size) (C := #[.int .i64 0, .int .i64 0, .int .i64 0, .int .i64 0]) (cells := #[.int .i64 kk, .int .i64 kt, .int .i64 kw, .int .i64 kn]) (T := 37)); (case zsx => rfl); (case zsy => rfl); (case zsn => rfl); (case zsi => exact szLK); (case zs1 => rfl); (case zsb => exact HBA5.out); intro wS5 hbS hfS hsS; have HBS5 := hid hbS; have HFS5 := hid (fr_made HFA5.out hfS (Nat.le_refl _)); clear HBA5 HFA5 hbS hfS hsS); have h0_ := HFS5.out.cell h0 (fun h => h); have c0_ := HFS5.out.cell c0 (fun h => h); have c1_ := HFS5.out.cell c1 (fun h => h); clear h0 h2 c0 c1; have h0 := h0_; have c0 := c0_; have c1 := c1_; have lob5 : OB < wS5.heap.size := World.block_lt_of_cell? _ _ c0; have HOB5 := hid (HOB.out.fr HFS5.out (fun h => h)); have HL5 := hid (HL4.out.fr HFS5.out (fun h => h)); have lq5 := HBS5.out.lt; have HROW5 := hid (HROW3.out.fr HFS5.out (fun _ _ h => h)); clear HL4 h0_ c0_ c1_ HROW3) | still_step | (with_reducible first | refine wpStill_nil ?_ | refine Flow.Both.mk ?_ ?_ | exact True.intro) | (with_reducible refine Flow.same_mk rfl rfl rfl ?_; go_simp; done) | (with_reducible exact Flow.same_un rfl rfl rfl) | (refine Flow.region_still mixed ?hB ?_; (case hB => decide +kernel)))
        go_loopw [44] (fun i wr => ∃ j : Nat, j ≤ L ∧ i = .int .i64 j ∧ Fr (fun _ => False) wS5 wr) (fun i _ => L - (intOf i).toNat)
        case atStart => exact ⟨0, Nat.zero_le _, rfl, by (with_reducible repeat' (first | exact Fr.refl _ _ | apply Fr.alloc | apply Fr.drew | apply Fr.drewN | refine Fr.setCell ?_ ?_ _))⟩
        case round =>
          obtain ⟨j, hj, rfl, hfq⟩ := hrel
          have HFQ := hid hfq
          clear hfq
          by_cases hlt : j < L
          · go_wp2_with (first | still_step | (with_reducible first | refine wpStill_nil ?_ | refine Flow.Both.mk ?_ ?_ | exact True.intro) | (with_reducible refine Flow.same_mk rfl rfl rfl ?_; go_simp; done) | (with_reducible exact Flow.same_un rfl rfl rfl) | (refine Flow.region_still mixed ?hB ?_; (case hB => decide +kernel)))
            go_roundw
            case rel => exact ⟨j + 1, by omega, by go_num, HFQ.out⟩
            case measure => simp [intOf]; omega
          · obtain rfl : j = L := by omega
            have HQN := hid (show ¬ False from fun h => h)
            have HRN := hid (show ¬ False from fun h => h)
            have q0 := (HBS5.out.fr HFQ.out HQN.out).cell 0
            have q1 := (HBS5.out.fr HFQ.out HQN.out).cell 1
            have q2 := (HBS5.out.fr HFQ.out HQN.out).cell 2
            have q3 := (HBS5.out.fr HFQ.out HQN.out).cell 3
            have HL1 := hid (HL5.out.fr HFQ.out HRN.out)
            have lq9 := ((HBS5.out.fr HFQ.out HQN.out)).lt
            go_wp2_with (first | ((with_reducible apply wpList_storeA (b := w.heap.size) (C := #[.int .i64 0, .int .i64 0, .int .i64 0, .int .i64 0]) (T := 37)); (case zsx => rfl); (case zsy => rfl); (case zsn => rfl); (case zsi => exact szLK); (case zs1 => rfl); (case zsb => ((repeat' (first | with_reducible exact HL1.out | with_reducible exact HL2.out | with_reducible exact HL3.out | with_reducible exact HL4.out | with_reducible apply Blk.drew | with_reducible apply Blk.alloc | (with_reducible refine Blk.set_ne ?_ ?_ _))); all_goals (first | omega | (simp; omega) | (simp; done)))); intro w9 hb9 hf9 hs9; have HB9 := hid hb9; have HF9 := hid hf9; have HSZ9 := hid hs9; clear hb9 hf9 hs9) | still_step | (with_reducible first | refine wpStill_nil ?_ | refine Flow.Both.mk ?_ ?_ | exact True.intro) | (with_reducible refine Flow.same_mk rfl rfl rfl ?_; go_simp; done) | (with_reducible exact Flow.same_un rfl rfl rfl) | (refine Flow.region_still mixed ?hB ?_; (case hB => decide +kernel)))
            refine bodyPost_ret (HRES.out _ rfl _ _ _ rfl HB9.out) rfl ?_
            have hf9 : Fr (fun z => z = w.heap.size) w3 w9 := Fr.trans (show Fr (fun z => z = w.heap.size) w3 _ from ((HFS5.out.trans HFQ.out (fun _ _ h => h)).mono (fun _ _ h => h.elim))) HF9.out (fun _ _ h => h)
            exact ⟨rfl, fin_x HH.out HM3.out HV3.out hf9 (fun z hz => by subst hz; exact ⟨Nat.le_refl _, HNW.out⟩)⟩
      | true =>
        rw [if_pos rfl] at hrs
        subst hrs
        go_wp2_with (first | ((with_reducible apply wpList_allocA (ty := 37) #[.int .i64 0, .int .i64 0, .int .i64 0, .int .i64 0]); (case zai => exact zLK); (case zac => rfl); intro wA5 hbA hfA hsA; have HBA5 := hid hbA; have HFA5 := hid hfA; clear hbA hfA hsA) | (((with_reducible apply wpList_storeA (b := w3.heap.size) (C := #[.int .i64 0, .int .i64 0, .int .i64 0, .int .i64 0]) (cells := #[.int .i64 kk, .int .i64 kt, .int .i64 kw, .int .i64 kn]) (T := 37)); (case zsx => rfl); (case zsy => rfl); (case zsn => rfl); (case zsi => exact szLK); (case zs1 => rfl); (case zsb => exact HBA5.out); intro wS5 hbS hfS hsS; have HBS5 := hid hbS; have HFS5 := hid (fr_made HFA5.out hfS (Nat.le_refl _)); clear HBA5 HFA5 hbS hfS hsS); have h0_ := HFS5.out.cell h0 (fun h => h); have c0_ := HFS5.out.cell c0 (fun h => h); have c1_ := HFS5.out.cell c1 (fun h => h); clear h0 h2 c0 c1; have h0 := h0_; have c0 := c0_; have c1 := c1_; have lob5 : OB < wS5.heap.size := World.block_lt_of_cell? _ _ c0; have HOB5 := hid (HOB.out.fr HFS5.out (fun h => h)); have HL5 := hid (HL4.out.fr HFS5.out (fun h => h)); have lq5 := HBS5.out.lt; have HROW5 := hid (HROW3.out.fr HFS5.out (fun _ _ h => h)); clear HL4 h0_ c0_ c1_ HROW3) | still_step | (with_reducible first | refine wpStill_nil ?_ | refine Flow.Both.mk ?_ ?_ | exact True.intro) | (with_reducible refine Flow.same_mk rfl rfl rfl ?_; go_simp; done) | (with_reducible exact Flow.same_un rfl rfl rfl) | (refine Flow.region_still mixed ?hB ?_; (case hB => decide +kernel)))
        go_loopw [44] (fun i wr => ∃ j : Nat, j ≤ L ∧ i = .int .i64 j ∧ OwnAt wr 91 21 (G k) (A k) L (C k) (gsC (lessN j (V k))) ∧ Fr (G k) wS5 wr) (fun i _ => L - (intOf i).toNat)
        case atStart => exact ⟨0, Nat.zero_le _, rfl, by rw [lessN_zero]; exact HROW5.out, by (with_reducible repeat' (first | exact Fr.refl _ _ | apply Fr.alloc | apply Fr.drew | apply Fr.drewN | refine Fr.setCell ?_ ?_ _))⟩
        case round =>
          obtain ⟨j, hj, rfl, hrw, hfq⟩ := hrel
          have HFQ := hid hfq
          have HRW := hid hrw
          have c0q := hfq.cell c0 (fun h => (HH.out.offG k _ h).2 rfl)
          have lobq : OB < wr.heap.size := World.block_lt_of_cell? _ _ c0q
          clear hfq hrw
          by_cases hlt : j < L
          · have hjl : j < (V k).length := by have := HVL.out; omega
            have hg16 : ∀ p ∈ lessN j (V k), p.1.regs.length = 16 := fun p hp => (lessN_ok HV.out.2.1 p hp).2
            have hcs : j * 21 + 19 < (gsC (lessN j (V k))).length := by rw [gsC_length hg16, lessN_length]; omega
            have hgj := lessN_get j (V k) hjl
            obtain ⟨r, off, hA, hGr, hfz, hcl, hset⟩ := own_setAt HRW.out hcs
            have hval := gsC_get hg16 hgj (gC_kept (hg16 _ (List.mem_of_getElem? hgj)))
            have hcl2 : wr.cell? ⟨r, off + j * 21 + 19, none⟩ = some (.int .i64 (V k)[j].1.kept) := by
              rw [Nat.add_assoc, hcl]
              rw [List.getElem?_eq_getElem hcs] at hval
              exact hval
            have hfz2 : wr.frozen? ⟨r, off + j * 21 + 19, none⟩ = false := by rw [Nat.add_assoc]; exact hfz
            have hst := hset (.int .i64 (wrap64 ((V k)[j].1.kept - 1))) (wr.setCell ⟨r, off + j * 21 + 19, none⟩ (.int .i64 (wrap64 ((V k)[j].1.kept - 1)))) (by rw [Nat.add_assoc])
            rw [gsC_set hg16 hgj, lessN_succ j (V k) hjl] at hst
            have HST := hid hst
            have lrq := World.block_lt_of_cell? _ _ hcl2
            dsimp only at lrq
            have HGR := hid hGr
            rw [hA] at c0q
            have hnr : ¬ (r = OB) := fun e => (HH.out.offG k r hGr).2 e
            clear hset hcl hfz hst hval hgj hcs hg16 c0 hGr
            generalize (V k)[j].1.kept = kp at *
            go_wp2_with (first | still_step | (with_reducible first | refine wpStill_nil ?_ | refine Flow.Both.mk ?_ ?_ | exact True.intro) | (with_reducible refine Flow.same_mk rfl rfl rfl ?_; go_simp; done) | (with_reducible exact Flow.same_un rfl rfl rfl) | (refine Flow.region_still mixed ?hB ?_; (case hB => decide +kernel)))
            go_roundw
            case rel => exact ⟨j + 1, by omega, by go_num, HST.out.1, HFQ.out.trans HST.out.2 (fun z _ e => by rw [e]; exact HGR.out)⟩
            case measure => simp [intOf]; omega
          · obtain rfl : j = L := by omega
            have HQN := hid (show ¬ G k w3.heap.size from fun h => by have h1 := HH.out.lt _ (HH.out.inG k _ h); have h2 := HV3.out.2.2.size; omega)
            have HRN := hid (show ¬ G k w.heap.size from fun h => by have h1 := HH.out.lt _ (HH.out.inG k _ h); omega)
            have q0 := (HBS5.out.fr HFQ.out HQN.out).cell 0
            have q1 := (HBS5.out.fr HFQ.out HQN.out).cell 1
            have q2 := (HBS5.out.fr HFQ.out HQN.out).cell 2
            have q3 := (HBS5.out.fr HFQ.out HQN.out).cell 3
            have HL1 := hid (HL5.out.fr HFQ.out HRN.out)
            have lq9 := ((HBS5.out.fr HFQ.out HQN.out)).lt
            go_wp2_with (first | ((with_reducible apply wpList_storeA (b := w.heap.size) (C := #[.int .i64 0, .int .i64 0, .int .i64 0, .int .i64 0]) (T := 37)); (case zsx => rfl); (case zsy => rfl); (case zsn => rfl); (case zsi => exact szLK); (case zs1 => rfl); (case zsb => ((repeat' (first | with_reducible exact HL1.out | with_reducible exact HL2.out | with_reducible exact HL3.out | with_reducible exact HL4.out | with_reducible apply Blk.drew | with_reducible apply Blk.alloc | (with_reducible refine Blk.set_ne ?_ ?_ _))); all_goals (first | omega | (simp; omega) | (simp; done)))); intro w9 hb9 hf9 hs9; have HB9 := hid hb9; have HF9 := hid hf9; have HSZ9 := hid hs9; clear hb9 hf9 hs9) | still_step | (with_reducible first | refine wpStill_nil ?_ | refine Flow.Both.mk ?_ ?_ | exact True.intro) | (with_reducible refine Flow.same_mk rfl rfl rfl ?_; go_simp; done) | (with_reducible exact Flow.same_un rfl rfl rfl) | (refine Flow.region_still mixed ?hB ?_; (case hB => decide +kernel)))
            refine bodyPost_ret (HRES.out _ rfl _ _ _ rfl HB9.out) rfl ?_
            have hvl : (V k).map lessP = lessN j (V k) := by rw [← lessN_all, HVL.out]
            have hf9 : Fr (fun z => z = w.heap.size ∨ G k z) w3 w9 := Fr.trans ((HFS5.out.mono (S2 := fun z => z = w.heap.size ∨ G k z) (fun _ _ h => h.elim)).trans HFQ.out (fun _ _ h => .inr h)) HF9.out (fun _ _ h => .inl h)
            have hrow9 : OwnAt w9 91 21 (G k) (A k) ((V k).map lessP).length (C k) (gsC ((V k).map lessP)) := by
              rw [hvl, lessN_length, HVL.out]
              exact HRW.out.fr HF9.out (fun z hz e => by subst e; exact HRN.out hz)
            have hob9 : Blk w9 OB D 88 := ((HOB5.out.fr HFQ.out (fun h => (HH.out.offG k _ h).2 rfl)).fr HF9.out (fun e => by omega))
            have hcells := HH.out.cells k _ HGO.out
            have hfu := fin_u HH.out HM3.out HV3.out HGO.out hf9 (fun z hz => by
              rcases hz with rfl | hz
              · exact ⟨.inl (Nat.le_refl _), HNW.out⟩
              · exact ⟨.inr (.inr hz), fun hm => by
                  rcases HV3.out.2.1 z hm with h' | h'
                  · exact HH.out.notG k z hz h'
                  · have := HH.out.lt z (HH.out.inG k z hz); omega⟩) hob9 rfl (a' := A k) (c' := C k) (vs := (V k).map lessP) (Gn := G k) (st := os) ⟨by rw [hcells.1, List.length_map, HVL.out, HLL.out], hcells.2⟩ (fun _ _ _ => rfl)
              (fun p hp => by rw [hvl] at hp; exact lessN_ok HV.out.2.1 p hp) hrow9 (fun z hz => ⟨.inl hz, Nat.lt_of_lt_of_le (HH.out.lt z (HH.out.inG k z hz)) (Nat.le_trans HV3.out.2.2.size hf9.size), fun hm => by
                rcases HV3.out.2.1 z hm with h' | h'
                · exact HH.out.notG k z hz h'
                · have := HH.out.lt z (HH.out.inG k z hz); omega⟩)
            have e1 : ((V k).map lessP).map (·.1) = ol.map less := by
              have := HV.out.1
              (try dsimp only at this)
              rw [← this, List.map_map, List.map_map]
              rfl
            rw [e1] at hfu
            exact ⟨rfl, hfu⟩
  · rw [← hL] at hrs c0
    clear hL
    rw [if_neg (fun h => hl h.1)] at hrs
    go_wp2_with (first | still_step | (with_reducible first | refine wpStill_nil ?_ | refine Flow.Both.mk ?_ ?_ | exact True.intro) | (with_reducible refine Flow.same_mk rfl rfl rfl ?_; go_simp; done) | (with_reducible exact Flow.same_un rfl rfl rfl) | (refine Flow.region_still mixed ?hB ?_; (case hB => decide +kernel)))
    go_at_call 58
    refine Calls.named fun wc hwc => ?_
    have hfc : Fr (fun _ => False) w1 wc := by rw [hwc]; (with_reducible repeat' (first | exact Fr.refl _ _ | apply Fr.alloc | apply Fr.drew | apply Fr.drewN | refine Fr.setCell ?_ ?_ _))
    have hfw := HF1.out.trans hfc (fun _ _ h => h)
    have HFC := hid hfc
    have HFW := hid hfw
    have hwq := hwc
    clear hwc hfc hfw
    refine (flush_is B Rm ids s.x (k : Int) wc (HH.out.mr.fr HFW.out (fun _ _ h => h))).mono ?_
    rintro e w3 ⟨rfl, Rm3, hm3, hv3⟩
    have hvv := (Mv.of_fr (R := Rm) HFW.out).trans hv3
    have HV3 := hid hvv
    have HM3 := hid hm3
    have hfr3 := (HFC.out.mono (S2 := Rm) (fun _ _ h => h.elim)).trans hv3.2.2 (fun _ _ h => h)
    have hlw := HL1.out.lt
    have hnw : ¬ Rm3 w.heap.size := fun hz => by
      rcases hv3.2.1 _ hz with h' | h'
      · have := HH.out.lt _ (HH.out.inM _ h'); omega
      · have := HFC.out.size; omega
    have HNW := hid hnw
    have HL4 := hid (HL1.out.fr hfr3 (fun hz => by have := HH.out.lt _ (HH.out.inM _ hz); omega))
    have h0 := hfr3.cell h0 HH.out.notS.1
    have c0 := hfr3.cell c0 HH.out.notS.2
    have c1 := hfr3.cell c1 HH.out.notS.2
    have hob := (HH.out.opens.fr hvv.2.2 HH.out.notS.2)
    have HOB := hid hob
    have hnob : ¬ Rm3 OB := fun hz => by
      rcases hvv.2.1 _ hz with h' | h'
      · exact HH.out.notS.2 h'
      · omega
    have HNOB := hid hnob
    have l3 := HL4.out.lt
    have hlob3 : OB < w3.heap.size := World.block_lt_of_cell? _ _ c0
    have HM3L := hid hm3.lt
    have HROW3 := hid (show OwnAt w3 91 21 (G k) (A k) L (C k) (gsC (V k)) from by have h := HV.out.2.2.fr hvv.2.2 (HH.out.notG k); rw [show (ol, os).1.length = L from HLL.out] at h; exact h)
    obtain ⟨⟨x', lk, is⟩, hres⟩ : ∃ r, r = s.x.flush (k : Int) := ⟨_, rfl⟩
    rw [← hres] at HM3 hrs ⊢
    obtain ⟨kk, kt, kw, kn⟩ := lk
    dsimp only [leakV] at HM3 hrs ⊢
    clear hres hm3 hv3 hvv hfr3 hnw hob hnob HFC HFW HL1 HF1 HROW
    cases is with
    | false =>
      rw [if_neg (by simp)] at hrs
      subst hrs
      go_wp2_with (first | ((with_reducible apply wpList_allocA (ty := 37) #[.int .i64 0, .int .i64 0, .int .i64 0, .int .i64 0]); (case zai => exact zLK); (case zac => rfl); intro wA5 hbA hfA hsA; have HBA5 := hid hbA; have HFA5 := hid hfA; clear hbA hfA hsA) | (((with_reducible apply wpList_storeA (b := w3.heap.size) (C := #[.int .i64 0, .int .i64 0, .int .i64 0, .int .i64 0]) (cells := #[.int .i64 kk, .int .i64 kt, .int .i64 kw, .int .i64 kn]) (T := 37)); (case zsx => rfl); (case zsy => rfl); (case zsn => rfl); (case zsi => exact szLK); (case zs1 => rfl); (case zsb => exact HBA5.out); intro wS5 hbS hfS hsS; have HBS5 := hid hbS; have HFS5 := hid (fr_made HFA5.out hfS (Nat.le_refl _)); clear HBA5 HFA5 hbS hfS hsS); have h0_ := HFS5.out.cell h0 (fun h => h); have c0_ := HFS5.out.cell c0 (fun h => h); have c1_ := HFS5.out.cell c1 (fun h => h); clear h0 h2 c0 c1; have h0 := h0_; have c0 := c0_; have c1 := c1_; have lob5 : OB < wS5.heap.size := World.block_lt_of_cell? _ _ c0; have HOB5 := hid (HOB.out.fr HFS5.out (fun h => h)); have HL5 := hid (HL4.out.fr HFS5.out (fun h => h)); have lq5 := HBS5.out.lt; have HROW5 := hid (HROW3.out.fr HFS5.out (fun _ _ h => h)); clear HL4 h0_ c0_ c1_ HROW3) | still_step | (with_reducible first | refine wpStill_nil ?_ | refine Flow.Both.mk ?_ ?_ | exact True.intro) | (with_reducible refine Flow.same_mk rfl rfl rfl ?_; go_simp; done) | (with_reducible exact Flow.same_un rfl rfl rfl) | (refine Flow.region_still mixed ?hB ?_; (case hB => decide +kernel)))
      go_loopw [44] (fun i wr => ∃ j : Nat, j ≤ L ∧ i = .int .i64 j ∧ Fr (fun _ => False) wS5 wr) (fun i _ => L - (intOf i).toNat)
      case atStart => exact ⟨0, Nat.zero_le _, rfl, by (with_reducible repeat' (first | exact Fr.refl _ _ | apply Fr.alloc | apply Fr.drew | apply Fr.drewN | refine Fr.setCell ?_ ?_ _))⟩
      case round =>
        obtain ⟨j, hj, rfl, hfq⟩ := hrel
        have HFQ := hid hfq
        clear hfq
        by_cases hlt : j < L
        · go_wp2_with (first | still_step | (with_reducible first | refine wpStill_nil ?_ | refine Flow.Both.mk ?_ ?_ | exact True.intro) | (with_reducible refine Flow.same_mk rfl rfl rfl ?_; go_simp; done) | (with_reducible exact Flow.same_un rfl rfl rfl) | (refine Flow.region_still mixed ?hB ?_; (case hB => decide +kernel)))
          go_roundw
          case rel => exact ⟨j + 1, by omega, by go_num, HFQ.out⟩
          case measure => simp [intOf]; omega
        · obtain rfl : j = L := by omega
          have HQN := hid (show ¬ False from fun h => h)
          have HRN := hid (show ¬ False from fun h => h)
          have q0 := (HBS5.out.fr HFQ.out HQN.out).cell 0
          have q1 := (HBS5.out.fr HFQ.out HQN.out).cell 1
          have q2 := (HBS5.out.fr HFQ.out HQN.out).cell 2
          have q3 := (HBS5.out.fr HFQ.out HQN.out).cell 3
          have HL1 := hid (HL5.out.fr HFQ.out HRN.out)
          have lq9 := ((HBS5.out.fr HFQ.out HQN.out)).lt
          go_wp2_with (first | ((with_reducible apply wpList_storeA (b := w.heap.size) (C := #[.int .i64 0, .int .i64 0, .int .i64 0, .int .i64 0]) (T := 37)); (case zsx => rfl); (case zsy => rfl); (case zsn => rfl); (case zsi => exact szLK); (case zs1 => rfl); (case zsb => ((repeat' (first | with_reducible exact HL1.out | with_reducible exact HL2.out | with_reducible exact HL3.out | with_reducible exact HL4.out | with_reducible apply Blk.drew | with_reducible apply Blk.alloc | (with_reducible refine Blk.set_ne ?_ ?_ _))); all_goals (first | omega | (simp; omega) | (simp; done)))); intro w9 hb9 hf9 hs9; have HB9 := hid hb9; have HF9 := hid hf9; have HSZ9 := hid hs9; clear hb9 hf9 hs9) | still_step | (with_reducible first | refine wpStill_nil ?_ | refine Flow.Both.mk ?_ ?_ | exact True.intro) | (with_reducible refine Flow.same_mk rfl rfl rfl ?_; go_simp; done) | (with_reducible exact Flow.same_un rfl rfl rfl) | (refine Flow.region_still mixed ?hB ?_; (case hB => decide +kernel)))
          refine bodyPost_ret (HRES.out _ rfl _ _ _ rfl HB9.out) rfl ?_
          have hf9 : Fr (fun z => z = w.heap.size) w3 w9 := Fr.trans (show Fr (fun z => z = w.heap.size) w3 _ from ((HFS5.out.trans HFQ.out (fun _ _ h => h)).mono (fun _ _ h => h.elim))) HF9.out (fun _ _ h => h)
          exact ⟨rfl, fin_x HH.out HM3.out HV3.out hf9 (fun z hz => by subst hz; exact ⟨Nat.le_refl _, HNW.out⟩)⟩
    | true =>
      rw [if_pos rfl] at hrs
      subst hrs
      go_wp2_with (first | ((with_reducible apply wpList_allocA (ty := 37) #[.int .i64 0, .int .i64 0, .int .i64 0, .int .i64 0]); (case zai => exact zLK); (case zac => rfl); intro wA5 hbA hfA hsA; have HBA5 := hid hbA; have HFA5 := hid hfA; clear hbA hfA hsA) | (((with_reducible apply wpList_storeA (b := w3.heap.size) (C := #[.int .i64 0, .int .i64 0, .int .i64 0, .int .i64 0]) (cells := #[.int .i64 kk, .int .i64 kt, .int .i64 kw, .int .i64 kn]) (T := 37)); (case zsx => rfl); (case zsy => rfl); (case zsn => rfl); (case zsi => exact szLK); (case zs1 => rfl); (case zsb => exact HBA5.out); intro wS5 hbS hfS hsS; have HBS5 := hid hbS; have HFS5 := hid (fr_made HFA5.out hfS (Nat.le_refl _)); clear HBA5 HFA5 hbS hfS hsS); have h0_ := HFS5.out.cell h0 (fun h => h); have c0_ := HFS5.out.cell c0 (fun h => h); have c1_ := HFS5.out.cell c1 (fun h => h); clear h0 h2 c0 c1; have h0 := h0_; have c0 := c0_; have c1 := c1_; have lob5 : OB < wS5.heap.size := World.block_lt_of_cell? _ _ c0; have HOB5 := hid (HOB.out.fr HFS5.out (fun h => h)); have HL5 := hid (HL4.out.fr HFS5.out (fun h => h)); have lq5 := HBS5.out.lt; have HROW5 := hid (HROW3.out.fr HFS5.out (fun _ _ h => h)); clear HL4 h0_ c0_ c1_ HROW3) | still_step | (with_reducible first | refine wpStill_nil ?_ | refine Flow.Both.mk ?_ ?_ | exact True.intro) | (with_reducible refine Flow.same_mk rfl rfl rfl ?_; go_simp; done) | (with_reducible exact Flow.same_un rfl rfl rfl) | (refine Flow.region_still mixed ?hB ?_; (case hB => decide +kernel)))
      go_loopw [44] (fun i wr => ∃ j : Nat, j ≤ L ∧ i = .int .i64 j ∧ OwnAt wr 91 21 (G k) (A k) L (C k) (gsC (lessN j (V k))) ∧ Fr (G k) wS5 wr) (fun i _ => L - (intOf i).toNat)
      case atStart => exact ⟨0, Nat.zero_le _, rfl, by rw [lessN_zero]; exact HROW5.out, by (with_reducible repeat' (first | exact Fr.refl _ _ | apply Fr.alloc | apply Fr.drew | apply Fr.drewN | refine Fr.setCell ?_ ?_ _))⟩
      case round =>
        obtain ⟨j, hj, rfl, hrw, hfq⟩ := hrel
        have HFQ := hid hfq
        have HRW := hid hrw
        have c0q := hfq.cell c0 (fun h => (HH.out.offG k _ h).2 rfl)
        have lobq : OB < wr.heap.size := World.block_lt_of_cell? _ _ c0q
        clear hfq hrw
        by_cases hlt : j < L
        · exact absurd hlt (by omega)
        · obtain rfl : j = L := by omega
          have HQN := hid (show ¬ G k w3.heap.size from fun h => by have h1 := HH.out.lt _ (HH.out.inG k _ h); have h2 := HV3.out.2.2.size; omega)
          have HRN := hid (show ¬ G k w.heap.size from fun h => by have h1 := HH.out.lt _ (HH.out.inG k _ h); omega)
          have q0 := (HBS5.out.fr HFQ.out HQN.out).cell 0
          have q1 := (HBS5.out.fr HFQ.out HQN.out).cell 1
          have q2 := (HBS5.out.fr HFQ.out HQN.out).cell 2
          have q3 := (HBS5.out.fr HFQ.out HQN.out).cell 3
          have HL1 := hid (HL5.out.fr HFQ.out HRN.out)
          have lq9 := ((HBS5.out.fr HFQ.out HQN.out)).lt
          go_wp2_with (first | ((with_reducible apply wpList_storeA (b := w.heap.size) (C := #[.int .i64 0, .int .i64 0, .int .i64 0, .int .i64 0]) (T := 37)); (case zsx => rfl); (case zsy => rfl); (case zsn => rfl); (case zsi => exact szLK); (case zs1 => rfl); (case zsb => ((repeat' (first | with_reducible exact HL1.out | with_reducible exact HL2.out | with_reducible exact HL3.out | with_reducible exact HL4.out | with_reducible apply Blk.drew | with_reducible apply Blk.alloc | (with_reducible refine Blk.set_ne ?_ ?_ _))); all_goals (first | omega | (simp; omega) | (simp; done)))); intro w9 hb9 hf9 hs9; have HB9 := hid hb9; have HF9 := hid hf9; have HSZ9 := hid hs9; clear hb9 hf9 hs9) | still_step | (with_reducible first | refine wpStill_nil ?_ | refine Flow.Both.mk ?_ ?_ | exact True.intro) | (with_reducible refine Flow.same_mk rfl rfl rfl ?_; go_simp; done) | (with_reducible exact Flow.same_un rfl rfl rfl) | (refine Flow.region_still mixed ?hB ?_; (case hB => decide +kernel)))
          refine bodyPost_ret (HRES.out _ rfl _ _ _ rfl HB9.out) rfl ?_
          have hvl : (V k).map lessP = lessN j (V k) := by rw [← lessN_all, HVL.out]
          have hf9 : Fr (fun z => z = w.heap.size ∨ G k z) w3 w9 := Fr.trans ((HFS5.out.mono (S2 := fun z => z = w.heap.size ∨ G k z) (fun _ _ h => h.elim)).trans HFQ.out (fun _ _ h => .inr h)) HF9.out (fun _ _ h => .inl h)
          have hrow9 : OwnAt w9 91 21 (G k) (A k) ((V k).map lessP).length (C k) (gsC ((V k).map lessP)) := by
            rw [hvl, lessN_length, HVL.out]
            exact HRW.out.fr HF9.out (fun z hz e => by subst e; exact HRN.out hz)
          have hob9 : Blk w9 OB D 88 := ((HOB5.out.fr HFQ.out (fun h => (HH.out.offG k _ h).2 rfl)).fr HF9.out (fun e => by omega))
          have hcells := HH.out.cells k _ HGO.out
          have hfu := fin_u HH.out HM3.out HV3.out HGO.out hf9 (fun z hz => by
            rcases hz with rfl | hz
            · exact ⟨.inl (Nat.le_refl _), HNW.out⟩
            · exact ⟨.inr (.inr hz), fun hm => by
                rcases HV3.out.2.1 z hm with h' | h'
                · exact HH.out.notG k z hz h'
                · have := HH.out.lt z (HH.out.inG k z hz); omega⟩) hob9 rfl (a' := A k) (c' := C k) (vs := (V k).map lessP) (Gn := G k) (st := os) ⟨by rw [hcells.1, List.length_map, HVL.out, HLL.out], hcells.2⟩ (fun _ _ _ => rfl)
            (fun p hp => by rw [hvl] at hp; exact lessN_ok HV.out.2.1 p hp) hrow9 (fun z hz => ⟨.inl hz, Nat.lt_of_lt_of_le (HH.out.lt z (HH.out.inG k z hz)) (Nat.le_trans HV3.out.2.2.size hf9.size), fun hm => by
              rcases HV3.out.2.1 z hm with h' | h'
              · exact HH.out.notG k z hz h'
              · have := HH.out.lt z (HH.out.inG k z hz); omega⟩)
          have e1 : ((V k).map lessP).map (·.1) = ol.map less := by
            have := HV.out.1
            (try dsimp only at this)
            rw [← this, List.map_map, List.map_map]
            rfl
          rw [e1] at hfu
          exact ⟨rfl, hfu⟩
end Go.Proofs.Ytbfeopakmjcapaa.Sp
