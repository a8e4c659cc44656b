/-
  A step of a machine that guesses.
-/
import Derived.Test.YtbfeopakmjcapaaSpN
import Derived.Test.YtbfeopakmjcapaaSpL3
set_option linter.unusedVariables false
set_option linter.unusedSimpArgs false
set_option maxHeartbeats 4000000
set_option maxRecDepth 8000
namespace Go.Proofs.Ytbfeopakmjcapaa.Sp
open Go.RowKit Go.Proofs.Ytbfeopakmjcapaa.Seq Go.Proofs.Ytbfeopakmjcapaa.Tso
attribute [local irreducible] wpStill wpList Calls CallsIn

theorem plain_is (k op d a b n to : Int) (w : World) : Calls Try.prog 56 #[.agg #[.int .i64 k, .int .i64 op, .int .i64 d, .int .i64 a, .int .i64 b, .int .i64 n, .int .i64 to]] w fun e w' => e = .returned (.bool (decide (k < 8))) ∧ Fr (fun _ => False) w w' := by
  go_enter Try.func56, Try.ntmps56
  go_wp2_with (first | still_step | (with_reducible first | refine wpStill_nil ?_ | refine Flow.Both.mk ?_ ?_ | exact True.intro) | (with_reducible refine Flow.same_mk rfl rfl rfl ?_; go_simp; done) | (with_reducible exact Flow.same_un rfl rfl rfl) | (refine Flow.region_still mixed ?hB ?_; (case hB => decide +kernel)))
  go_ret
  exact ⟨rfl, by (with_reducible repeat' (first | exact Fr.refl _ _ | apply Fr.alloc | apply Fr.drew | apply Fr.drewN | refine Fr.setCell ?_ ?_ _))⟩

theorem sstep_is (SB : Nat) (R : Nat → Prop) (s : SM) (n : Int) (o : Op) (w : World) (h : SR w R SB s) (hg : s.guesses n = some o) (hgd : GoodM s.x) (hev : evRoom s.x) :
    Calls Try.prog 33 #[.pointer (some ⟨SB, 0, none⟩), .int .i64 n] w fun e w' => e = .returned (.tuple #[leakV (s.step n o).2.1, .bool (s.step n o).2.2]) ∧ ∃ R', SR w' R' SB (s.step n o).1 ∧ Mv R R' w w' := by
  obtain ⟨res, hrs⟩ : ∃ r, r = s.step n o := ⟨_, rfl⟩
  rw [← hrs]
  have HRS := hid hrs
  clear hrs
  obtain ⟨B, OB, oc, ids, D, A, C, V, G, Rm, h⟩ := h
  have HH := hid h
  obtain ⟨k, rfl, hgo⟩ := guesses_get hg
  have hk := (List.getElem?_eq_some_iff.1 hgo).1
  have hv := h.vals k _ hgo
  have HV := hid hv
  have HGO := hid hgo
  have h0 : w.cell? ⟨SB, 0, none⟩ = some (.pointer (some ⟨B, 0, none⟩)) := h.head.cell 0
  have h1 : w.cell? ⟨SB, 1, none⟩ = some (.slice (some ⟨OB, 0, none⟩) s.op.length oc) := h.head.cell 1
  have h2 : w.cell? ⟨SB, 2, none⟩ = some (.int .i64 s.window) := h.head.cell 2
  have c0 : w.cell? ⟨OB, k * 2, none⟩ = some (.slice (A k) o.1.length (C k)) := by rw [h.opens.cell]; exact (h.cells k _ hgo).1
  have c1 : w.cell? ⟨OB, k * 2 + 1, none⟩ = some (.int .i64 o.2) := by rw [h.opens.cell]; exact (h.cells k _ hgo).2
  have f1 := h.opens.free (k * 2 + 1)
  have lsb := h.head.lt
  have lob := h.opens.lt
  have hgs := fun (w1 : World) (hf : Fr (fun _ => False) w w1) => guesses_is SB B OB oc s.op.length (k : Int) s.window w1 (hf.cell h0 (fun h => h)) (hf.cell h1 (fun h => h))
  have HG := hid hgs
  obtain ⟨d4, hd4, hd5⟩ := unLK
  have HL := hid (Blk.new w #[.int .i64 0, .int .i64 0, .int .i64 0, .int .i64 0] 37)
  obtain ⟨SL, hSL⟩ : ∃ SL, SL = s.op.length := ⟨_, rfl⟩
  have HSL := hid hSL
  clear h hgo hg hv hgs h1 hSL
  obtain ⟨ol, os⟩ := o
  dsimp only at c0 c1
  have hres := fun (C : Array Value) (hC : C.size = 4) (tmps : Array Value) (w : World) (b : Nat) (ha : tmps.getD 4 undef = .pointer (some ⟨b, 0, none⟩)) (hb : Blk w b C 37) => results_ct (P := Try.prog) Try.results33 ha hb hd4 hd5 (by rw [hC]; exact szLK)
  have HRES := hid hres
  clear hres
  go_enter Try.func33, Try.ntmps33
  go_wp2_with (first | still_step | (with_reducible first | refine wpStill_nil ?_ | refine Flow.Both.mk ?_ ?_ | exact True.intro) | (with_reducible refine Flow.same_mk rfl rfl rfl ?_; go_simp; done) | (with_reducible exact Flow.same_un rfl rfl rfl) | (with_reducible refine Flow.region_flow (id := 3) [0, 1, 3, 7, 15, 31, 63, 127, 255, 511, 1023, 127, 2175, 6271, 14463, 32767, 65535, 131071, 262143, 524287, 1048575, 2097151] 262144 718654 [(0, none), (1, none), (2, none), (3, none), (4, none), (5, none), (6, none), (7, none), (8, none), (9, none), (10, none), (11, none), (12, none), (13, none), (14, none), (15, none), (16, none), (17, none), (18, some []), (19, none), (20, none), (21, none)] mixed ?hB ?_; (case hB => decide +kernel); simp only [Flow.textOf, Flow.q1, Flow.q2, Flow.q3, Flow.q4, Flow.q5, Flow.q6, Flow.q7, Flow.q8, Flow.q9, Flow.wpFl, Flow.SameAll]) | (refine Flow.region_still mixed ?hB ?_; (case hB => decide +kernel)))
  go_at_call 38
  refine (HG.out _ (by (with_reducible repeat' (first | exact Fr.refl _ _ | apply Fr.alloc | apply Fr.drew | apply Fr.drewN | refine Fr.setCell ?_ ?_ _)))).mono ?_
  rintro e w1 ⟨rfl, hf⟩
  rw [if_pos (by omega), show ((k : Nat) : Int).toNat = k by simp]
  have hf1 := (show Fr (fun _ => False) w _ by (with_reducible repeat' (first | exact Fr.refl _ _ | apply Fr.alloc | apply Fr.drew | apply Fr.drewN | refine Fr.setCell ?_ ?_ _))).trans hf (fun _ _ h => h)
  have HF1 := hid hf1
  have HL1 := hid (HL.out.fr hf (fun h => h))
  have h0_ := Fr.cell hf1 h0 (fun h => h)
  clear h0
  have h0 := h0_
  clear h0_
  have h2_ := Fr.cell hf1 h2 (fun h => h)
  clear h2
  have h2 := h2_
  clear h2_
  have c0_ := Fr.cell hf1 c0 (fun h => h)
  clear c0
  have c0 := c0_
  clear c0_
  have c1_ := Fr.cell hf1 c1 (fun h => h)
  clear c1
  have c1 := c1_
  clear c1_
  clear hf hf1 HL HG
  go_wp2_with (first | still_step | (with_reducible first | refine wpStill_nil ?_ | refine Flow.Both.mk ?_ ?_ | exact True.intro) | (with_reducible refine Flow.same_mk rfl rfl rfl ?_; go_simp; done) | (with_reducible exact Flow.same_un rfl rfl rfl) | (with_reducible refine Flow.region_flow (id := 3) [0, 1, 3, 7, 15, 31, 63, 127, 255, 511, 1023, 127, 2175, 6271, 14463, 32767, 65535, 131071, 262143, 524287, 1048575, 2097151] 262144 718654 [(0, none), (1, none), (2, none), (3, none), (4, none), (5, none), (6, none), (7, none), (8, none), (9, none), (10, none), (11, none), (12, none), (13, none), (14, none), (15, none), (16, none), (17, none), (18, some []), (19, none), (20, none), (21, none)] mixed ?hB ?_; (case hB => decide +kernel); simp only [Flow.textOf, Flow.q1, Flow.q2, Flow.q3, Flow.q4, Flow.q5, Flow.q6, Flow.q7, Flow.q8, Flow.q9, Flow.wpFl, Flow.SameAll]) | (refine Flow.region_still mixed ?hB ?_; (case hB => decide +kernel)))
  go_at_call 55
  refine Calls.named fun wc hwc => ?_
  have hfc : Fr (fun _ => False) w1 wc := by rw [hwc]; (with_reducible repeat' (first | exact Fr.refl _ _ | apply Fr.alloc | apply Fr.drew | apply Fr.drewN | refine Fr.setCell ?_ ?_ _))
  have hfw := HF1.out.trans hfc (fun _ _ h => h)
  have HFC := hid hfc
  have HFW := hid hfw
  have hwq := hwc
  clear hwc hfc hfw
  refine (next_is B Rm ids s.x (k : Int) wc (HH.out.mr.fr HFW.out (fun _ _ h => h))).mono ?_
  rintro e w2 ⟨rfl, hf2⟩
  have hf12 := HFC.out.trans hf2 (fun _ _ h => h)
  have HF2 := hid (HF1.out.trans hf12 (fun _ _ h => h))
  have HL2 := hid (HL1.out.fr hf12 (fun h => h))
  have h0_ := Fr.cell hf12 h0 (fun h => h)
  clear h0
  have h0 := h0_
  clear h0_
  have h2_ := Fr.cell hf12 h2 (fun h => h)
  clear h2
  have h2 := h2_
  clear h2_
  have c0_ := Fr.cell hf12 c0 (fun h => h)
  clear c0
  have c0 := c0_
  clear c0_
  have c1_ := Fr.cell hf12 c1 (fun h => h)
  clear c1
  have c1 := c1_
  clear c1_
  have lob2 : OB < w2.heap.size := World.block_lt_of_cell? _ _ c0
  have lsb2 : SB < w2.heap.size := World.block_lt_of_cell? _ _ h0
  clear hf2 hf12 HFC HFW HF1 HL1
  obtain ⟨iv, hiv⟩ : ∃ iv, iv = (s.x.next (k : Int)).getD noneI := ⟨_, rfl⟩
  rw [← hiv]
  have HIV := hid hiv
  clear hiv
  obtain ⟨ik, iop, idd, ia, ib, inn, ito⟩ := iv
  dsimp only [insC]
  generalize (s.x.next (k : Int)).isSome = nis
  have hrs := HRS.out
  unfold SM.step at hrs
  rw [← HIV.out] at hrs
  dsimp only at hrs
  by_cases hl : 0 < ol.length
  · by_cases hw : s.window ≤ os
    · rw [if_pos ⟨hl, .inl hw⟩] at hrs
      subst hrs
      clear hgd hev HIV
      generalize s.window = W at *
      go_wp2_with (first | ((with_reducible apply wpList_storeA (b := w.heap.size) (C := #[.int .i64 0, .int .i64 0, .int .i64 0, .int .i64 0]) (T := 37)); (case zsx => rfl); (case zsy => rfl); (case zsn => rfl); (case zsi => exact szLK); (case zs1 => rfl); (case zsb => ((repeat' (first | with_reducible exact HL1.out | with_reducible exact HL2.out | with_reducible exact HL3.out | with_reducible exact HL4.out | with_reducible apply Blk.drew | with_reducible apply Blk.alloc | (with_reducible refine Blk.set_ne ?_ ?_ _))); all_goals (first | omega | (simp; omega) | (simp; done)))); intro w9 hb9 hf9 hs9; have HB9 := hid hb9; have HF9 := hid hf9; have HSZ9 := hid hs9; clear hb9 hf9 hs9) | still_step | (with_reducible first | refine wpStill_nil ?_ | refine Flow.Both.mk ?_ ?_ | exact True.intro) | (with_reducible refine Flow.same_mk rfl rfl rfl ?_; go_simp; done) | (with_reducible exact Flow.same_un rfl rfl rfl) | (with_reducible refine Flow.region_flow (id := 3) [0, 1, 3, 7, 15, 31, 63, 127, 255, 511, 1023, 127, 2175, 6271, 14463, 32767, 65535, 131071, 262143, 524287, 1048575, 2097151] 262144 718654 [(0, none), (1, none), (2, none), (3, none), (4, none), (5, none), (6, none), (7, none), (8, none), (9, none), (10, none), (11, none), (12, none), (13, none), (14, none), (15, none), (16, none), (17, none), (18, some []), (19, none), (20, none), (21, none)] mixed ?hB ?_; (case hB => decide +kernel); simp only [Flow.textOf, Flow.q1, Flow.q2, Flow.q3, Flow.q4, Flow.q5, Flow.q6, Flow.q7, Flow.q8, Flow.q9, Flow.wpFl, Flow.SameAll]) | (refine Flow.region_still mixed ?hB ?_; (case hB => decide +kernel)))
      refine bodyPost_ret (HRES.out _ rfl _ _ _ rfl HB9.out) rfl ?_
      have hF9 : Fr (fun _ => False) w w9 := fr_weaken (by (repeat' (first | with_reducible exact HF2.out | with_reducible apply Fr.alloc | with_reducible apply Fr.drew | (with_reducible refine Fr.setCell ?_ ?_ _)))) HF9.out (Nat.le_refl _)
      exact ⟨rfl, R, SR.fr ⟨B, OB, oc, ids, D, A, C, V, G, Rm, HH.out⟩ hF9 (fun _ _ h => h), Mv.of_fr hF9⟩
    · by_cases h8 : 8 ≤ ik
      · have h8' : decide (ik < 8) = false := by simpa using h8
        rw [if_pos ⟨hl, .inr h8⟩] at hrs
        subst hrs
        clear hgd hev HIV
        generalize s.window = W at *
        go_wp2_with (first | ((with_reducible apply wpList_storeA (b := w.heap.size) (C := #[.int .i64 0, .int .i64 0, .int .i64 0, .int .i64 0]) (T := 37)); (case zsx => rfl); (case zsy => rfl); (case zsn => rfl); (case zsi => exact szLK); (case zs1 => rfl); (case zsb => ((repeat' (first | with_reducible exact HL1.out | with_reducible exact HL2.out | with_reducible exact HL3.out | with_reducible exact HL4.out | with_reducible apply Blk.drew | with_reducible apply Blk.alloc | (with_reducible refine Blk.set_ne ?_ ?_ _))); all_goals (first | omega | (simp; omega) | (simp; done)))); intro w9 hb9 hf9 hs9; have HB9 := hid hb9; have HF9 := hid hf9; have HSZ9 := hid hs9; clear hb9 hf9 hs9) | (go_at_call 56; refine (plain_is _ _ _ _ _ _ _ _).mono ?_; rintro e wp ⟨rfl, hfp⟩; have hfp2 := (show Fr (fun _ => False) w2 _ by (with_reducible repeat' (first | exact Fr.refl _ _ | apply Fr.alloc | apply Fr.drew | apply Fr.drewN | refine Fr.setCell ?_ ?_ _))).trans hfp (fun _ _ h => h); have HFP := hid (HF2.out.trans hfp2 (fun _ _ h => h)); have HL3 := hid (HL2.out.fr hfp2 (fun h => h)); have h0_ := hfp2.cell h0 (fun h => h); have h2_ := hfp2.cell h2 (fun h => h); have c0_ := hfp2.cell c0 (fun h => h); have c1_ := hfp2.cell c1 (fun h => h); clear h0 h2 c0 c1; have h0 := h0_; have h2 := h2_; have c0 := c0_; have c1 := c1_; have lobp : OB < wp.heap.size := World.block_lt_of_cell? _ _ c0; have lsbp : SB < wp.heap.size := World.block_lt_of_cell? _ _ h0; clear hfp hfp2 HF2 HL2 h0_ h2_ c0_ c1_) | still_step | (with_reducible first | refine wpStill_nil ?_ | refine Flow.Both.mk ?_ ?_ | exact True.intro) | (with_reducible refine Flow.same_mk rfl rfl rfl ?_; go_simp; done) | (with_reducible exact Flow.same_un rfl rfl rfl) | (with_reducible refine Flow.region_flow (id := 3) [0, 1, 3, 7, 15, 31, 63, 127, 255, 511, 1023, 127, 2175, 6271, 14463, 32767, 65535, 131071, 262143, 524287, 1048575, 2097151] 262144 718654 [(0, none), (1, none), (2, none), (3, none), (4, none), (5, none), (6, none), (7, none), (8, none), (9, none), (10, none), (11, none), (12, none), (13, none), (14, none), (15, none), (16, none), (17, none), (18, some []), (19, none), (20, none), (21, none)] mixed ?hB ?_; (case hB => decide +kernel); simp only [Flow.textOf, Flow.q1, Flow.q2, Flow.q3, Flow.q4, Flow.q5, Flow.q6, Flow.q7, Flow.q8, Flow.q9, Flow.wpFl, Flow.SameAll]) | (refine Flow.region_still mixed ?hB ?_; (case hB => decide +kernel)))
        refine bodyPost_ret (HRES.out _ rfl _ _ _ rfl HB9.out) rfl ?_
        have hF9 : Fr (fun _ => False) w w9 := fr_weaken (by (repeat' (first | with_reducible exact HFP.out | with_reducible apply Fr.alloc | with_reducible apply Fr.drew | (with_reducible refine Fr.setCell ?_ ?_ _)))) HF9.out (Nat.le_refl _)
        exact ⟨rfl, R, SR.fr ⟨B, OB, oc, ids, D, A, C, V, G, Rm, HH.out⟩ hF9 (fun _ _ h => h), Mv.of_fr hF9⟩
      · have h8' : decide (ik < 8) = true := by simpa using h8
        rw [if_neg (fun h => h.2.elim hw h8)] at hrs
        go_wp2_with (first | (go_at_call 56; refine (plain_is _ _ _ _ _ _ _ _).mono ?_; rintro e wp ⟨rfl, hfp⟩; have hfp2 := (show Fr (fun _ => False) w2 _ by (with_reducible repeat' (first | exact Fr.refl _ _ | apply Fr.alloc | apply Fr.drew | apply Fr.drewN | refine Fr.setCell ?_ ?_ _))).trans hfp (fun _ _ h => h); have HFP := hid (HF2.out.trans hfp2 (fun _ _ h => h)); have HL3 := hid (HL2.out.fr hfp2 (fun h => h)); have h0_ := hfp2.cell h0 (fun h => h); have h2_ := hfp2.cell h2 (fun h => h); have c0_ := hfp2.cell c0 (fun h => h); have c1_ := hfp2.cell c1 (fun h => h); clear h0 h2 c0 c1; have h0 := h0_; have h2 := h2_; have c0 := c0_; have c1 := c1_; have lobp : OB < wp.heap.size := World.block_lt_of_cell? _ _ c0; have lsbp : SB < wp.heap.size := World.block_lt_of_cell? _ _ h0; clear hfp hfp2 HF2 HL2 h0_ h2_ c0_ c1_) | still_step | (with_reducible first | refine wpStill_nil ?_ | refine Flow.Both.mk ?_ ?_ | exact True.intro) | (with_reducible refine Flow.same_mk rfl rfl rfl ?_; go_simp; done) | (with_reducible exact Flow.same_un rfl rfl rfl) | (with_reducible refine Flow.region_flow (id := 3) [0, 1, 3, 7, 15, 31, 63, 127, 255, 511, 1023, 127, 2175, 6271, 14463, 32767, 65535, 131071, 262143, 524287, 1048575, 2097151] 262144 718654 [(0, none), (1, none), (2, none), (3, none), (4, none), (5, none), (6, none), (7, none), (8, none), (9, none), (10, none), (11, none), (12, none), (13, none), (14, none), (15, none), (16, none), (17, none), (18, some []), (19, none), (20, none), (21, none)] mixed ?hB ?_; (case hB => decide +kernel); simp only [Flow.textOf, Flow.q1, Flow.q2, Flow.q3, Flow.q4, Flow.q5, Flow.q6, Flow.q7, Flow.q8, Flow.q9, Flow.wpFl, Flow.SameAll]) | (refine Flow.region_still mixed ?hB ?_; (case hB => decide +kernel)))
        go_at_call 57
        refine Calls.named fun wc hwc => ?_
        have hfc : Fr (fun _ => False) wp wc := by rw [hwc]; (with_reducible repeat' (first | exact Fr.refl _ _ | apply Fr.alloc | apply Fr.drew | apply Fr.drewN | refine Fr.setCell ?_ ?_ _))
        have hfw := HFP.out.trans hfc (fun _ _ h => h)
        have HFC := hid hfc
        have HFW := hid hfw
        have hwq := hwc
        clear hwc hfc hfw
        refine (step_is B Rm ids s.x (k : Int) wc (HH.out.mr.fr HFW.out (fun _ _ h => h)) hgd hev).mono ?_
        rintro e w3 ⟨rfl, Rm3, hm3, hv3⟩
        have hvv := (Mv.of_fr (R := Rm) HFW.out).trans hv3
        have HV3 := hid hvv
        have HM3 := hid hm3
        have hfr3 := (HFC.out.mono (S2 := Rm) (fun _ _ h => h.elim)).trans hv3.2.2 (fun _ _ h => h)
        have hlw := HL3.out.lt
        have hnw : ¬ Rm3 w.heap.size := fun hz => by
          rcases hv3.2.1 _ hz with h' | h'
          · have := HH.out.lt _ (HH.out.inM _ h'); omega
          · have := HFC.out.size; omega
        have HNW := hid hnw
        have HL4 := hid (HL3.out.fr hfr3 (fun hz => by have := HH.out.lt _ (HH.out.inM _ hz); omega))
        have h0 := hfr3.cell h0 HH.out.notS.1
        have h2 := hfr3.cell h2 HH.out.notS.1
        have c0 := hfr3.cell c0 HH.out.notS.2
        have c1 := hfr3.cell c1 HH.out.notS.2
        have hob := (HH.out.opens.fr hvv.2.2 HH.out.notS.2)
        have HOB := hid hob
        have f1 := hob.free (k * 2 + 1)
        have hnob : ¬ Rm3 OB := fun hz => by
          rcases hvv.2.1 _ hz with h' | h'
          · exact HH.out.notS.2 h'
          · omega
        have HNOB := hid hnob
        have l3 := HL4.out.lt
        have hlob3 : OB < w3.heap.size := World.block_lt_of_cell? _ _ c0
        have HM3L := hid hm3.lt
        obtain ⟨⟨x', lk, is⟩, hres⟩ : ∃ r, r = s.x.step (k : Int) := ⟨_, rfl⟩
        rw [← hres] at HM3 hrs ⊢
        obtain ⟨kk, kt, kw, kn⟩ := lk
        dsimp only [leakV] at HM3 hrs ⊢
        clear hres hm3 hv3 hvv hfr3 hnw hob hnob HFC HFW HL3 HFP
        cases is with
        | false =>
          rw [if_neg (fun h => by cases h.1)] at hrs
          subst hrs
          (try dsimp only)
          go_wp2_with (first | ((with_reducible apply wpList_allocA (ty := 37) #[.int .i64 0, .int .i64 0, .int .i64 0, .int .i64 0]); (case zai => exact zLK); (case zac => rfl); intro wA5 hbA hfA hsA; have HBA5 := hid hbA; have HFA5 := hid hfA; clear hbA hfA hsA) | (((with_reducible apply wpList_storeA (b := w3.heap.size) (C := #[.int .i64 0, .int .i64 0, .int .i64 0, .int .i64 0]) (cells := #[.int .i64 kk, .int .i64 kt, .int .i64 kw, .int .i64 kn]) (T := 37)); (case zsx => rfl); (case zsy => rfl); (case zsn => rfl); (case zsi => exact szLK); (case zs1 => rfl); (case zsb => exact HBA5.out); intro wS5 hbS hfS hsS; have HBS5 := hid hbS; have HFS5 := hid (fr_made HFA5.out hfS (Nat.le_refl _)); clear HBA5 HFA5 hbS hfS hsS); have q0 := HBS5.out.cell 0; have q1 := HBS5.out.cell 1; have q2 := HBS5.out.cell 2; have q3 := HBS5.out.cell 3; have h0_ := HFS5.out.cell h0 (fun h => h); have h2_ := HFS5.out.cell h2 (fun h => h); have c0_ := HFS5.out.cell c0 (fun h => h); have c1_ := HFS5.out.cell c1 (fun h => h); clear h0 h2 c0 c1; have h0 := h0_; have h2 := h2_; have c0 := c0_; have c1 := c1_; have lob5 : OB < wS5.heap.size := World.block_lt_of_cell? _ _ c0; have lsb5 : SB < wS5.heap.size := World.block_lt_of_cell? _ _ h0; have hob5 := HOB.out.fr HFS5.out (fun h => h); have f1_ := hob5.free (k * 2 + 1); have HOB5 := hid hob5; have HL3 := hid (HL4.out.fr HFS5.out (fun h => h)); have lq5 := HBS5.out.lt; clear HL4 h0_ h2_ c0_ c1_ f1 hob5) | ((with_reducible apply wpList_storeA (b := w.heap.size) (C := #[.int .i64 0, .int .i64 0, .int .i64 0, .int .i64 0]) (T := 37)); (case zsx => rfl); (case zsy => rfl); (case zsn => rfl); (case zsi => exact szLK); (case zs1 => rfl); (case zsb => ((repeat' (first | with_reducible exact HL1.out | with_reducible exact HL2.out | with_reducible exact HL3.out | with_reducible exact HL4.out | with_reducible apply Blk.drew | with_reducible apply Blk.alloc | (with_reducible refine Blk.set_ne ?_ ?_ _))); all_goals (first | omega | (simp; omega) | (simp; done)))); intro w9 hb9 hf9 hs9; have HB9 := hid hb9; have HF9 := hid hf9; have HSZ9 := hid hs9; clear hb9 hf9 hs9) | still_step | (with_reducible first | refine wpStill_nil ?_ | refine Flow.Both.mk ?_ ?_ | exact True.intro) | (with_reducible refine Flow.same_mk rfl rfl rfl ?_; go_simp; done) | (with_reducible exact Flow.same_un rfl rfl rfl) | (with_reducible refine Flow.region_flow (id := 3) [0, 1, 3, 7, 15, 31, 63, 127, 255, 511, 1023, 127, 2175, 6271, 14463, 32767, 65535, 131071, 262143, 524287, 1048575, 2097151] 262144 718654 [(0, none), (1, none), (2, none), (3, none), (4, none), (5, none), (6, none), (7, none), (8, none), (9, none), (10, none), (11, none), (12, none), (13, none), (14, none), (15, none), (16, none), (17, none), (18, some []), (19, none), (20, none), (21, none)] mixed ?hB ?_; (case hB => decide +kernel); simp only [Flow.textOf, Flow.q1, Flow.q2, Flow.q3, Flow.q4, Flow.q5, Flow.q6, Flow.q7, Flow.q8, Flow.q9, Flow.wpFl, Flow.SameAll]) | (refine Flow.region_still mixed ?hB ?_; (case hB => decide +kernel)))
          refine bodyPost_ret (HRES.out _ rfl _ _ _ rfl HB9.out) rfl ?_
          have hfa : Fr (fun z => z = w.heap.size) w3 wS5 := HFS5.out.mono (fun _ _ h => h.elim)
          have hf9 : Fr (fun z => z = w.heap.size) w3 w9 := Fr.trans (show Fr (fun z => z = w.heap.size) w3 _ from by (repeat' (first | with_reducible exact hfa | with_reducible apply Fr.drew | with_reducible apply Fr.alloc))) HF9.out (fun _ _ h => h)
          exact ⟨rfl, fin_x HH.out HM3.out HV3.out hf9 (fun z hz => by subst hz; exact ⟨Nat.le_refl _, HNW.out⟩)⟩
        | true =>
          rw [if_pos ⟨rfl, hl⟩] at hrs
          subst hrs
          (try dsimp only)
          go_wp2_with (first | ((with_reducible apply wpList_allocA (ty := 37) #[.int .i64 0, .int .i64 0, .int .i64 0, .int .i64 0]); (case zai => exact zLK); (case zac => rfl); intro wA5 hbA hfA hsA; have HBA5 := hid hbA; have HFA5 := hid hfA; clear hbA hfA hsA) | (((with_reducible apply wpList_storeA (b := w3.heap.size) (C := #[.int .i64 0, .int .i64 0, .int .i64 0, .int .i64 0]) (cells := #[.int .i64 kk, .int .i64 kt, .int .i64 kw, .int .i64 kn]) (T := 37)); (case zsx => rfl); (case zsy => rfl); (case zsn => rfl); (case zsi => exact szLK); (case zs1 => rfl); (case zsb => exact HBA5.out); intro wS5 hbS hfS hsS; have HBS5 := hid hbS; have HFS5 := hid (fr_made HFA5.out hfS (Nat.le_refl _)); clear HBA5 HFA5 hbS hfS hsS); have q0 := HBS5.out.cell 0; have q1 := HBS5.out.cell 1; have q2 := HBS5.out.cell 2; have q3 := HBS5.out.cell 3; have h0_ := HFS5.out.cell h0 (fun h => h); have h2_ := HFS5.out.cell h2 (fun h => h); have c0_ := HFS5.out.cell c0 (fun h => h); have c1_ := HFS5.out.cell c1 (fun h => h); clear h0 h2 c0 c1; have h0 := h0_; have h2 := h2_; have c0 := c0_; have c1 := c1_; have lob5 : OB < wS5.heap.size := World.block_lt_of_cell? _ _ c0; have lsb5 : SB < wS5.heap.size := World.block_lt_of_cell? _ _ h0; have hob5 := HOB.out.fr HFS5.out (fun h => h); have f1_ := hob5.free (k * 2 + 1); have HOB5 := hid hob5; have HL3 := hid (HL4.out.fr HFS5.out (fun h => h)); have lq5 := HBS5.out.lt; clear HL4 h0_ h2_ c0_ c1_ f1 hob5) | ((with_reducible apply wpList_storeA (b := w.heap.size) (C := #[.int .i64 0, .int .i64 0, .int .i64 0, .int .i64 0]) (T := 37)); (case zsx => rfl); (case zsy => rfl); (case zsn => rfl); (case zsi => exact szLK); (case zs1 => rfl); (case zsb => ((repeat' (first | with_reducible exact HL1.out | with_reducible exact HL2.out | with_reducible exact HL3.out | with_reducible exact HL4.out | with_reducible apply Blk.drew | with_reducible apply Blk.alloc | (with_reducible refine Blk.set_ne ?_ ?_ _))); all_goals (first | omega | (simp; omega) | (simp; done)))); intro w9 hb9 hf9 hs9; have HB9 := hid hb9; have HF9 := hid hf9; have HSZ9 := hid hs9; clear hb9 hf9 hs9) | still_step | (with_reducible first | refine wpStill_nil ?_ | refine Flow.Both.mk ?_ ?_ | exact True.intro) | (with_reducible refine Flow.same_mk rfl rfl rfl ?_; go_simp; done) | (with_reducible exact Flow.same_un rfl rfl rfl) | (with_reducible refine Flow.region_flow (id := 3) [0, 1, 3, 7, 15, 31, 63, 127, 255, 511, 1023, 127, 2175, 6271, 14463, 32767, 65535, 131071, 262143, 524287, 1048575, 2097151] 262144 718654 [(0, none), (1, none), (2, none), (3, none), (4, none), (5, none), (6, none), (7, none), (8, none), (9, none), (10, none), (11, none), (12, none), (13, none), (14, none), (15, none), (16, none), (17, none), (18, some []), (19, none), (20, none), (21, none)] mixed ?hB ?_; (case hB => decide +kernel); simp only [Flow.textOf, Flow.q1, Flow.q2, Flow.q3, Flow.q4, Flow.q5, Flow.q6, Flow.q7, Flow.q8, Flow.q9, Flow.wpFl, Flow.SameAll]) | (refine Flow.region_still mixed ?hB ?_; (case hB => decide +kernel)))
          refine bodyPost_ret (HRES.out _ rfl _ _ _ rfl HB9.out) rfl ?_
          have hfa : Fr (fun z => z = w.heap.size ∨ z = OB) w3 wS5 := HFS5.out.mono (fun _ _ h => h.elim)
          have hf9 : Fr (fun z => z = w.heap.size ∨ z = OB) w3 w9 := Fr.trans (show Fr (fun z => z = w.heap.size ∨ z = OB) w3 _ from by (repeat' (first | with_reducible exact hfa | with_reducible apply Fr.drew | with_reducible apply Fr.alloc | (with_reducible refine Fr.setCell ?_ (fun _ => Or.inr rfl) _)))) HF9.out (fun _ _ h => .inl h)
          have hb9 : Blk w9 OB (D.setIfInBounds (k * 2 + 1) (.int .i64 (wrap64 (os + 1)))) 88 := Blk.fr (Blk.set HOB5.out (k * 2 + 1) (.int .i64 (wrap64 (os + 1)))) HF9.out (fun e => by omega)
          exact ⟨rfl, fin_s HH.out HM3.out HV3.out HGO.out hf9 (fun z hz => by
            rcases hz with rfl | rfl
            · exact ⟨.inl (Nat.le_refl _), HNW.out⟩
            · exact ⟨.inr rfl, HNOB.out⟩) (wrap64 (os + 1)) hb9⟩
  · rw [if_neg (fun h => hl h.1)] at hrs
    go_wp2_with (first | still_step | (with_reducible first | refine wpStill_nil ?_ | refine Flow.Both.mk ?_ ?_ | exact True.intro) | (with_reducible refine Flow.same_mk rfl rfl rfl ?_; go_simp; done) | (with_reducible exact Flow.same_un rfl rfl rfl) | (with_reducible refine Flow.region_flow (id := 3) [0, 1, 3, 7, 15, 31, 63, 127, 255, 511, 1023, 127, 2175, 6271, 14463, 32767, 65535, 131071, 262143, 524287, 1048575, 2097151] 262144 718654 [(0, none), (1, none), (2, none), (3, none), (4, none), (5, none), (6, none), (7, none), (8, none), (9, none), (10, none), (11, none), (12, none), (13, none), (14, none), (15, none), (16, none), (17, none), (18, some []), (19, none), (20, none), (21, none)] mixed ?hB ?_; (case hB => decide +kernel); simp only [Flow.textOf, Flow.q1, Flow.q2, Flow.q3, Flow.q4, Flow.q5, Flow.q6, Flow.q7, Flow.q8, Flow.q9, Flow.wpFl, Flow.SameAll]) | (refine Flow.region_still mixed ?hB ?_; (case hB => decide +kernel)))
    go_at_call 57
    refine Calls.named fun wc hwc => ?_
    have hfc : Fr (fun _ => False) w2 wc := by rw [hwc]; (with_reducible repeat' (first | exact Fr.refl _ _ | apply Fr.alloc | apply Fr.drew | apply Fr.drewN | refine Fr.setCell ?_ ?_ _))
    have hfw := HF2.out.trans hfc (fun _ _ h => h)
    have HFC := hid hfc
    have HFW := hid hfw
    have hwq := hwc
    clear hwc hfc hfw
    refine (step_is B Rm ids s.x (k : Int) wc (HH.out.mr.fr HFW.out (fun _ _ h => h)) hgd hev).mono ?_
    rintro e w3 ⟨rfl, Rm3, hm3, hv3⟩
    have hvv := (Mv.of_fr (R := Rm) HFW.out).trans hv3
    have HV3 := hid hvv
    have HM3 := hid hm3
    have hfr3 := (HFC.out.mono (S2 := Rm) (fun _ _ h => h.elim)).trans hv3.2.2 (fun _ _ h => h)
    have hlw := HL2.out.lt
    have hnw : ¬ Rm3 w.heap.size := fun hz => by
      rcases hv3.2.1 _ hz with h' | h'
      · have := HH.out.lt _ (HH.out.inM _ h'); omega
      · have := HFC.out.size; omega
    have HNW := hid hnw
    have HL4 := hid (HL2.out.fr hfr3 (fun hz => by have := HH.out.lt _ (HH.out.inM _ hz); omega))
    have h0 := hfr3.cell h0 HH.out.notS.1
    have h2 := hfr3.cell h2 HH.out.notS.1
    have c0 := hfr3.cell c0 HH.out.notS.2
    have c1 := hfr3.cell c1 HH.out.notS.2
    have hob := (HH.out.opens.fr hvv.2.2 HH.out.notS.2)
    have HOB := hid hob
    have f1 := hob.free (k * 2 + 1)
    have hnob : ¬ Rm3 OB := fun hz => by
      rcases hvv.2.1 _ hz with h' | h'
      · exact HH.out.notS.2 h'
      · omega
    have HNOB := hid hnob
    have l3 := HL4.out.lt
    have hlob3 : OB < w3.heap.size := World.block_lt_of_cell? _ _ c0
    have HM3L := hid hm3.lt
    obtain ⟨⟨x', lk, is⟩, hres⟩ : ∃ r, r = s.x.step (k : Int) := ⟨_, rfl⟩
    rw [← hres] at HM3 hrs ⊢
    obtain ⟨kk, kt, kw, kn⟩ := lk
    dsimp only [leakV] at HM3 hrs ⊢
    clear hres hm3 hv3 hvv hfr3 hnw hob hnob HFC HFW HL2 HF2
    rw [if_neg (fun h => hl h.2)] at hrs
    subst hrs
    (try dsimp only)
    cases is with
    | false =>
      go_wp2_with (first | ((with_reducible apply wpList_allocA (ty := 37) #[.int .i64 0, .int .i64 0, .int .i64 0, .int .i64 0]); (case zai => exact zLK); (case zac => rfl); intro wA5 hbA hfA hsA; have HBA5 := hid hbA; have HFA5 := hid hfA; clear hbA hfA hsA) | (((with_reducible apply wpList_storeA (b := w3.heap.size) (C := #[.int .i64 0, .int .i64 0, .int .i64 0, .int .i64 0]) (cells := #[.int .i64 kk, .int .i64 kt, .int .i64 kw, .int .i64 kn]) (T := 37)); (case zsx => rfl); (case zsy => rfl); (case zsn => rfl); (case zsi => exact szLK); (case zs1 => rfl); (case zsb => exact HBA5.out); intro wS5 hbS hfS hsS; have HBS5 := hid hbS; have HFS5 := hid (fr_made HFA5.out hfS (Nat.le_refl _)); clear HBA5 HFA5 hbS hfS hsS); have q0 := HBS5.out.cell 0; have q1 := HBS5.out.cell 1; have q2 := HBS5.out.cell 2; have q3 := HBS5.out.cell 3; have h0_ := HFS5.out.cell h0 (fun h => h); have h2_ := HFS5.out.cell h2 (fun h => h); have c0_ := HFS5.out.cell c0 (fun h => h); have c1_ := HFS5.out.cell c1 (fun h => h); clear h0 h2 c0 c1; have h0 := h0_; have h2 := h2_; have c0 := c0_; have c1 := c1_; have lob5 : OB < wS5.heap.size := World.block_lt_of_cell? _ _ c0; have lsb5 : SB < wS5.heap.size := World.block_lt_of_cell? _ _ h0; have hob5 := HOB.out.fr HFS5.out (fun h => h); have f1_ := hob5.free (k * 2 + 1); have HOB5 := hid hob5; have HL3 := hid (HL4.out.fr HFS5.out (fun h => h)); have lq5 := HBS5.out.lt; clear HL4 h0_ h2_ c0_ c1_ f1 hob5) | ((with_reducible apply wpList_storeA (b := w.heap.size) (C := #[.int .i64 0, .int .i64 0, .int .i64 0, .int .i64 0]) (T := 37)); (case zsx => rfl); (case zsy => rfl); (case zsn => rfl); (case zsi => exact szLK); (case zs1 => rfl); (case zsb => ((repeat' (first | with_reducible exact HL1.out | with_reducible exact HL2.out | with_reducible exact HL3.out | with_reducible exact HL4.out | with_reducible apply Blk.drew | with_reducible apply Blk.alloc | (with_reducible refine Blk.set_ne ?_ ?_ _))); all_goals (first | omega | (simp; omega) | (simp; done)))); intro w9 hb9 hf9 hs9; have HB9 := hid hb9; have HF9 := hid hf9; have HSZ9 := hid hs9; clear hb9 hf9 hs9) | still_step | (with_reducible first | refine wpStill_nil ?_ | refine Flow.Both.mk ?_ ?_ | exact True.intro) | (with_reducible refine Flow.same_mk rfl rfl rfl ?_; go_simp; done) | (with_reducible exact Flow.same_un rfl rfl rfl) | (with_reducible refine Flow.region_flow (id := 3) [0, 1, 3, 7, 15, 31, 63, 127, 255, 511, 1023, 127, 2175, 6271, 14463, 32767, 65535, 131071, 262143, 524287, 1048575, 2097151] 262144 718654 [(0, none), (1, none), (2, none), (3, none), (4, none), (5, none), (6, none), (7, none), (8, none), (9, none), (10, none), (11, none), (12, none), (13, none), (14, none), (15, none), (16, none), (17, none), (18, some []), (19, none), (20, none), (21, none)] mixed ?hB ?_; (case hB => decide +kernel); simp only [Flow.textOf, Flow.q1, Flow.q2, Flow.q3, Flow.q4, Flow.q5, Flow.q6, Flow.q7, Flow.q8, Flow.q9, Flow.wpFl, Flow.SameAll]) | (refine Flow.region_still mixed ?hB ?_; (case hB => decide +kernel)))
      refine bodyPost_ret (HRES.out _ rfl _ _ _ rfl HB9.out) rfl ?_
      have hfa : Fr (fun z => z = w.heap.size) w3 wS5 := HFS5.out.mono (fun _ _ h => h.elim)
      have hf9 : Fr (fun z => z = w.heap.size) w3 w9 := Fr.trans (show Fr (fun z => z = w.heap.size) w3 _ from by (repeat' (first | with_reducible exact hfa | with_reducible apply Fr.drew | with_reducible apply Fr.alloc))) HF9.out (fun _ _ h => h)
      exact ⟨rfl, fin_x HH.out HM3.out HV3.out hf9 (fun z hz => by subst hz; exact ⟨Nat.le_refl _, HNW.out⟩)⟩
    | true =>
      go_wp2_with (first | ((with_reducible apply wpList_allocA (ty := 37) #[.int .i64 0, .int .i64 0, .int .i64 0, .int .i64 0]); (case zai => exact zLK); (case zac => rfl); intro wA5 hbA hfA hsA; have HBA5 := hid hbA; have HFA5 := hid hfA; clear hbA hfA hsA) | (((with_reducible apply wpList_storeA (b := w3.heap.size) (C := #[.int .i64 0, .int .i64 0, .int .i64 0, .int .i64 0]) (cells := #[.int .i64 kk, .int .i64 kt, .int .i64 kw, .int .i64 kn]) (T := 37)); (case zsx => rfl); (case zsy => rfl); (case zsn => rfl); (case zsi => exact szLK); (case zs1 => rfl); (case zsb => exact HBA5.out); intro wS5 hbS hfS hsS; have HBS5 := hid hbS; have HFS5 := hid (fr_made HFA5.out hfS (Nat.le_refl _)); clear HBA5 HFA5 hbS hfS hsS); have q0 := HBS5.out.cell 0; have q1 := HBS5.out.cell 1; have q2 := HBS5.out.cell 2; have q3 := HBS5.out.cell 3; have h0_ := HFS5.out.cell h0 (fun h => h); have h2_ := HFS5.out.cell h2 (fun h => h); have c0_ := HFS5.out.cell c0 (fun h => h); have c1_ := HFS5.out.cell c1 (fun h => h); clear h0 h2 c0 c1; have h0 := h0_; have h2 := h2_; have c0 := c0_; have c1 := c1_; have lob5 : OB < wS5.heap.size := World.block_lt_of_cell? _ _ c0; have lsb5 : SB < wS5.heap.size := World.block_lt_of_cell? _ _ h0; have hob5 := HOB.out.fr HFS5.out (fun h => h); have f1_ := hob5.free (k * 2 + 1); have HOB5 := hid hob5; have HL3 := hid (HL4.out.fr HFS5.out (fun h => h)); have lq5 := HBS5.out.lt; clear HL4 h0_ h2_ c0_ c1_ f1 hob5) | ((with_reducible apply wpList_storeA (b := w.heap.size) (C := #[.int .i64 0, .int .i64 0, .int .i64 0, .int .i64 0]) (T := 37)); (case zsx => rfl); (case zsy => rfl); (case zsn => rfl); (case zsi => exact szLK); (case zs1 => rfl); (case zsb => ((repeat' (first | with_reducible exact HL1.out | with_reducible exact HL2.out | with_reducible exact HL3.out | with_reducible exact HL4.out | with_reducible apply Blk.drew | with_reducible apply Blk.alloc | (with_reducible refine Blk.set_ne ?_ ?_ _))); all_goals (first | omega | (simp; omega) | (simp; done)))); intro w9 hb9 hf9 hs9; have HB9 := hid hb9; have HF9 := hid hf9; have HSZ9 := hid hs9; clear hb9 hf9 hs9) | still_step | (with_reducible first | refine wpStill_nil ?_ | refine Flow.Both.mk ?_ ?_ | exact True.intro) | (with_reducible refine Flow.same_mk rfl rfl rfl ?_; go_simp; done) | (with_reducible exact Flow.same_un rfl rfl rfl) | (with_reducible refine Flow.region_flow (id := 3) [0, 1, 3, 7, 15, 31, 63, 127, 255, 511, 1023, 127, 2175, 6271, 14463, 32767, 65535, 131071, 262143, 524287, 1048575, 2097151] 262144 718654 [(0, none), (1, none), (2, none), (3, none), (4, none), (5, none), (6, none), (7, none), (8, none), (9, none), (10, none), (11, none), (12, none), (13, none), (14, none), (15, none), (16, none), (17, none), (18, some []), (19, none), (20, none), (21, none)] mixed ?hB ?_; (case hB => decide +kernel); simp only [Flow.textOf, Flow.q1, Flow.q2, Flow.q3, Flow.q4, Flow.q5, Flow.q6, Flow.q7, Flow.q8, Flow.q9, Flow.wpFl, Flow.SameAll]) | (refine Flow.region_still mixed ?hB ?_; (case hB => decide +kernel)))
      refine bodyPost_ret (HRES.out _ rfl _ _ _ rfl HB9.out) rfl ?_
      have hfa : Fr (fun z => z = w.heap.size) w3 wS5 := HFS5.out.mono (fun _ _ h => h.elim)
      have hf9 : Fr (fun z => z = w.heap.size) w3 w9 := Fr.trans (show Fr (fun z => z = w.heap.size) w3 _ from by (repeat' (first | with_reducible exact hfa | with_reducible apply Fr.drew | with_reducible apply Fr.alloc))) HF9.out (fun _ _ h => h)
      exact ⟨rfl, fin_x HH.out HM3.out HV3.out hf9 (fun z hz => by subst hz; exact ⟨Nat.le_refl _, HNW.out⟩)⟩
end Go.Proofs.Ytbfeopakmjcapaa.Sp
