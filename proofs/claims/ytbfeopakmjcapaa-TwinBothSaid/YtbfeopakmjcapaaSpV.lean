/-
  How a thread of a machine that guesses stands.
-/
import Derived.Test.YtbfeopakmjcapaaSpF
import Derived.Test.YtbfeopakmjcapaaSpL3
set_option linter.unusedVariables false
set_option linter.unusedSimpArgs false
set_option maxHeartbeats 4000000
set_option maxRecDepth 8000
namespace Go.Proofs.Ytbfeopakmjcapaa.Sp
open Go.RowKit Go.Proofs.Ytbfeopakmjcapaa.Seq Go.Proofs.Ytbfeopakmjcapaa.Tso
attribute [local irreducible] wpStill wpList Calls CallsIn

theorem sthread_is (SB : Nat) (R : Nat → Prop) (s : SM) (n : Int) (w : World) (h : SR w R SB s) :
    Calls Try.prog 14 #[.pointer (some ⟨SB, 0, none⟩), .int .i64 n] w fun e w' => ∃ a c, e = .returned (.agg (standV ((s.x.th n).getD noTh) a c).toArray) ∧
      OwnAt w' 124 2 (fun z => w.heap.size ≤ z) a ((s.x.th n).getD noTh).wait.length c (ent ((s.x.th n).getD noTh).wait) ∧ Fr (fun _ => False) w w' := by
  obtain ⟨B, OB, oc, ids, D, A, C, V, G, Rm, h⟩ := h
  have HM := hid h.mr
  have h16 := regs16 h.mr n
  have h0 : w.cell? ⟨SB, 0, none⟩ = some (.pointer (some ⟨B, 0, none⟩)) := h.head.cell 0
  have hi := fun (w1 : World) (hf : Fr (fun _ => False) w w1) => inner_is SB B w1 (hf.cell h0 (fun h => h))
  have HI := hid hi
  have hres := fun (C : Array Value) (hC : C.size = 19) (tmps : Array Value) (w : World) (b : Nat) (ha : tmps.getD 4 undef = .pointer (some ⟨b, 0, none⟩)) (hb : Blk w b C 45) => results_c1 (P := Try.prog) Try.results14 ha hb unTHR.choose_spec.1 unTHR.choose_spec.2 (by rw [hC]; exact szTHR)
  have HRES := hid hres
  obtain ⟨T, hT⟩ : ∃ T, T = (s.x.th n).getD noTh := ⟨_, rfl⟩
  rw [← hT] at h16 ⊢
  have HT := hid hT
  have HT16 := hid h16
  clear h h0 hi hres hT h16
  go_enter Try.func14, Try.ntmps14
  go_wp2_with (first | ((with_reducible apply wpList_allocA (ty := 45) (standV noTh none 0).toArray); (case zai => exact zTHR2); (case zac => rfl); intro wA8 hbA hfA hsA; have HBA8 := hid hbA; have HFA8 := hid hfA; clear hbA hfA hsA) | still_step | (with_reducible first | refine wpStill_nil ?_ | refine Flow.Both.mk ?_ ?_ | exact True.intro) | (with_reducible refine Flow.same_mk rfl rfl rfl ?_; go_simp; done) | (with_reducible exact Flow.same_un rfl rfl rfl) | (refine Flow.region_still mixed ?hB ?_; (case hB => decide +kernel)))
  go_at_call 39
  refine Calls.named fun wc hwc => ?_
  have hfc : Fr (fun _ => False) w wc := by rw [hwc]; exact HFA8.out
  have hbc : Blk wc w.heap.size (standV noTh none 0).toArray 45 := by rw [hwc]; exact HBA8.out
  refine (HI.out wc hfc).mono ?_
  rintro e w1 ⟨rfl, hf1⟩
  have HF1 := hid (hfc.trans hf1 (fun _ _ h => h))
  have HB1 := hid (hbc.fr hf1 (fun h => h))
  clear hwc hfc hbc hf1 HBA8 HFA8 HI
  go_wp2_with (first | still_step | (with_reducible first | refine wpStill_nil ?_ | refine Flow.Both.mk ?_ ?_ | exact True.intro) | (with_reducible refine Flow.same_mk rfl rfl rfl ?_; go_simp; done) | (with_reducible exact Flow.same_un rfl rfl rfl) | (refine Flow.region_still mixed ?hB ?_; (case hB => decide +kernel)))
  go_at_call 40
  refine Calls.named fun wc hwc => ?_
  have hfc : Fr (fun _ => False) w1 wc := by rw [hwc]; (with_reducible repeat' (first | exact Fr.refl _ _ | apply Fr.alloc | apply Fr.drew | apply Fr.drewN | refine Fr.setCell ?_ ?_ _))
  have hfw := HF1.out.trans hfc (fun _ _ h => h)
  have HFC := hid hfc
  have HFW := hid hfw
  have hwq := hwc
  clear hwc hfc hfw
  have hbc := HB1.out.fr HFC.out (fun h => h)
  have hti := thread_is B Rm ids s.x n wc (HM.out.fr HFW.out (fun _ _ h => h))
  rw [← HT.out] at hti
  refine hti.mono ?_
  rintro e w2 ⟨ta, tc, rfl, ho2, hf2⟩
  obtain ⟨vT, hvT⟩ : ∃ vT, vT = (standV T ta tc).toArray := ⟨_, rfl⟩
  have HSD := hid (by have := stand_of T ta tc HT16.out; rw [← hvT] at this; exact this : Stand T ta tc vT)
  rw [← hvT]
  have HVT := hid hvT
  have HF2 := hid (HFW.out.trans hf2 (fun _ _ h => h))
  have HB2 := hid (hbc.fr hf2 (fun h => h))
  have hwl : w.heap.size < wc.heap.size := hbc.lt
  have HO2 := hid (ho2.mono (R2 := fun z => wc.heap.size ≤ z) (fun z _ h => h))
  clear hwq hbc hti ho2 hf2 HFC HFW HF1 HB1 hvT
  go_wp2_with (first | ((with_reducible apply wpList_storeA (b := w.heap.size) (C := (standV noTh none 0).toArray) (cells := vT) (T := 45)); (case zsx => rfl); (case zsy => rfl); (case zsn => exact HSD.out.size); (case zsi => rw [HSD.out.size]; exact szTHR); (case zs1 => exact HSD.out.one); (case zsb => exact HB2.out); intro w9 hb9 hf9 hs9; have HB9 := hid hb9; have HF9 := hid hf9; clear hb9 hf9 hs9) | still_step | (with_reducible first | refine wpStill_nil ?_ | refine Flow.Both.mk ?_ ?_ | exact True.intro) | (with_reducible refine Flow.same_mk rfl rfl rfl ?_; go_simp; done) | (with_reducible exact Flow.same_un rfl rfl rfl) | (refine Flow.region_still mixed ?hB ?_; (case hB => decide +kernel)))
  refine bodyPost_ret (HRES.out _ HSD.out.size _ _ _ rfl HB9.out) rfl ?_
  have hF9 : Fr (fun z => z = w.heap.size) w2 w9 := by first | exact HF9.out | exact (Fr.refl _ _).drew.trans HF9.out (fun _ _ h => h)
  rw [HVT.out]
  exact ⟨ta, tc, rfl, (HO2.out.fr hF9 (fun z hz e => by omega)).mono (fun z _ h => by omega), fr_weaken HF2.out hF9 (Nat.le_refl _)⟩
end Go.Proofs.Ytbfeopakmjcapaa.Sp

/-
  How a thread stood at a guess, with what still waits.
-/
namespace Go.Proofs.Ytbfeopakmjcapaa.Sp
open Go.RowKit Go.Proofs.Ytbfeopakmjcapaa.Seq Go.Proofs.Ytbfeopakmjcapaa.Tso
attribute [local irreducible] wpStill wpList Calls CallsIn

theorem unG : ∃ d, Try.prog.underlying 91 = some d ∧ d.isRow = true := ⟨_, Try.underlying91, rfl⟩
theorem same_loadR {P : Program} {ops : Array Oper} {d : Tmp} {ty tt : TypeId} {x : Operand} {ps : String} {af : Array Edge} {g : Option (Nat × Bool)} {a : Act} {w : World} {b o : Nat} {C : Array Value} {T : TypeId} {ds : TypeDesc} (cs : List Value) (zlw : Region.wanted ⟨some d, .load ty x, tt, ps, af, g⟩ (yielded ops a.tmps) = true) (zlv : a.tmps.getD d undef = .agg cs.toArray)
    (zlx : a.eval x = .pointer (some ⟨b, o, none⟩)) (zlu : P.underlying ty = some ds) (zld : ds.isRow = true) (zli : (P.info? ty).map (·.size) = some cs.length) (zlb : Blk w b C T) (zlc : ∀ j v, cs[j]? = some v → C[o + j]? = some v) : Flow.SameO P ops ⟨some d, .load ty x, tt, ps, af, g⟩ a w :=
  Flow.same_mk zlw rfl zlv (run_loadB cs zlb zlc rfl zlx zlu zld zli)

/-- Place, registers, and what waits set: it stands as at the guess. -/
theorem stand_at (T : Th) (g : Gs) (ta : Option Addr) (tc kp : Nat) (hT : T.regs.length = 16) (hg : g.regs.length = 16) (hk : g.kept = kp) (hkt : kp ≤ T.wait.length) :
    ((((standV T ta tc).toArray.setIfInBounds 0 (.int .i64 g.place)).toList.take 1 ++ (ints g.regs).toArray.toList ++ ((standV T ta tc).toArray.setIfInBounds 0 (.int .i64 g.place)).toList.drop (1 + (ints g.regs).toArray.size)).toArray).setIfInBounds 17 (.slice ta kp tc) = (standV (stoodAt T g) ta tc).toArray := by
  obtain ⟨code, place, regs, wait, over⟩ := T
  obtain ⟨r0, r1, r2, r3, r4, r5, r6, r7, r8, r9, r10, r11, r12, r13, r14, r15, rfl⟩ := list16 regs hT
  obtain ⟨gp, gr, gov, gk, gs⟩ := g
  obtain ⟨s0, s1, s2, s3, s4, s5, s6, s7, s8, s9, s10, s11, s12, s13, s14, s15, rfl⟩ := list16 gr hg
  dsimp only at hk hkt
  subst hk
  have e : (wait.take ((kp : Nat) : Int).toNat).length = kp := by simp; omega
  unfold stoodAt standV
  dsimp only
  rw [e]
  rfl

theorem at_is {w : World} {SB B OB oc : Nat} {ids : List (Nat × Nat)} {D : Array Value} {A : Nat → Option Addr} {C : Nat → Nat} {V : Nat → List (Gs × Value)} {G : Nat → Nat → Prop} {Rm R : Nat → Prop} {s : SM} (h : SRep w SB B OB oc ids D A C V G Rm R s) (n : Int) (g : Gs) (v : Value) (kp : Nat) (hg : g.regs.length = 16) (hk : g.kept = kp) (hkt : kp ≤ ((s.x.th n).getD noTh).wait.length) :
    Calls Try.prog 43 #[.pointer (some ⟨SB, 0, none⟩), .int .i64 n, .agg (gC (g, v)).toArray] w fun e w' => ∃ a c, e = .returned (.agg (standV (stoodAt ((s.x.th n).getD noTh) g) a c).toArray) ∧
      OwnAt w' 124 2 (fun z => w.heap.size ≤ z) a kp c (ent (((s.x.th n).getD noTh).wait.take kp)) ∧ Fr (fun _ => False) w w' := by
  have HM := hid h.mr
  have h16 := regs16 h.mr n
  have h0 : w.cell? ⟨SB, 0, none⟩ = some (.pointer (some ⟨B, 0, none⟩)) := h.head.cell 0
  have lsb := h.head.lt
  have hres := fun (C : Array Value) (hC : C.size = 19) (tmps : Array Value) (w : World) (b : Nat) (ha : tmps.getD 6 undef = .pointer (some ⟨b, 0, none⟩)) (hb : Blk w b C 45) => results_c1 (P := Try.prog) Try.results43 ha hb unTHR.choose_spec.1 unTHR.choose_spec.2 (by rw [hC]; exact szTHR)
  have HRES := hid hres
  obtain ⟨T, hT⟩ : ∃ T, T = (s.x.th n).getD noTh := ⟨_, rfl⟩
  rw [← hT] at h16 hkt ⊢
  have HT := hid hT
  have HT16 := hid h16
  have HG16 := hid hg
  obtain ⟨vG, hvG⟩ : ∃ vG, vG = (gC (g, v)).toArray := ⟨_, rfl⟩
  rw [← hvG]
  have HGR := hid (show ∀ j u, (ints g.regs)[j]? = some u → vG[1 + j]? = some u from fun j u hj => by rw [hvG, List.getElem?_toArray]; exact gC_regs j u hj)
  have g0 : vG[0]? = some (.int .i64 g.place) := by rw [hvG]; rfl
  have g19 : vG[19]? = some (.int .i64 (kp : Nat)) := by rw [hvG, List.getElem?_toArray, gC_kept hg, hk]
  have HBX := hid (Blk.new w vG 91)
  have HK := hid hk
  obtain ⟨gp, hgp⟩ : ∃ gp, gp = g.place := ⟨_, rfl⟩
  rw [← hgp] at g0
  have HGP := hid hgp
  have G0 := hid g0
  have G19 := hid g19
  clear h hres hT h16 hg hk hvG hgp g0 g19
  go_enter Try.func43, Try.ntmps43
  go_wp2_with (first | ((with_reducible apply wpList_allocA (ty := 45) (standV noTh none 0).toArray); (case zai => exact zTHR2); (case zac => rfl); intro wA8 hbA hfA hsA; have h0_ := ((show Fr (fun _ => False) w _ by (with_reducible repeat' (first | exact Fr.refl _ _ | apply Fr.alloc | apply Fr.drew | apply Fr.drewN | refine Fr.setCell ?_ ?_ _))).trans hfA (fun _ _ h => h)).cell h0 (fun h => h); have HBA8 := hid hbA; have HFA8 := hid hfA; clear hbA hfA hsA) | still_step | (with_reducible first | refine wpStill_nil ?_ | refine Flow.Both.mk ?_ ?_ | exact True.intro) | (with_reducible refine Flow.same_mk rfl rfl rfl ?_; go_simp; done) | (with_reducible exact Flow.same_un rfl rfl rfl) | (with_reducible refine Flow.region_flow (id := 2) [0, 1, 3, 0, 8, 24, 0, 64, 0, 256, 960, 199, 2247, 6399, 14591, 32767, 65535] 86016 45055 [(0, none), (1, none), (2, none), (3, none), (4, none), (5, none), (6, none), (7, none), (8, none), (9, none), (10, none), (11, none), (12, some [3, 4, 5, 8, 9, 10]), (13, none), (14, some [8, 9, 10]), (15, none), (16, some [])] mixed ?hB ?_; (case hB => decide +kernel); simp only [Flow.textOf, Flow.q1, Flow.q2, Flow.q3, Flow.q4, Flow.q5, Flow.q6, Flow.q7, Flow.q8, Flow.q9, Flow.wpFl, Flow.SameAll]) | (refine Flow.region_still mixed ?hB ?_; (case hB => decide +kernel)))
  refine Calls.named fun wc hwc => ?_
  have hfc : Fr (fun _ => False) w wc := by rw [hwc]; exact (show Fr (fun _ => False) w _ by (with_reducible repeat' (first | exact Fr.refl _ _ | apply Fr.alloc | apply Fr.drew | apply Fr.drewN | refine Fr.setCell ?_ ?_ _))).trans HFA8.out (fun _ _ h => h)
  have hbxc : Blk wc w.heap.size vG 91 := by rw [hwc]; exact HBX.out.fr HFA8.out (fun h => h)
  have hrsc : Blk wc (w.heap.size + 1) (standV noTh none 0).toArray 45 := by rw [hwc]; have := HBA8.out; simpa using this
  have hti := thread_is B Rm ids s.x n wc (HM.out.fr hfc (fun _ _ h => h))
  rw [← HT.out] at hti
  refine hti.mono ?_
  rintro e w1 ⟨ta, tc, rfl, ho1, hf1⟩
  obtain ⟨vT, hvT⟩ : ∃ vT, vT = (standV T ta tc).toArray := ⟨_, rfl⟩
  have HSD := hid (by have := stand_of T ta tc HT16.out; rw [← hvT] at this; exact this : Stand T ta tc vT)
  rw [← hvT]
  have HVT := hid hvT
  obtain ⟨TW, hTW⟩ : ∃ TW, TW = T.wait.length := ⟨_, rfl⟩
  have HTW := hid hTW
  rw [← hTW] at hkt
  have hcap : TW ≤ tc := by rw [hTW]; exact ho1.1
  have hkc : kp ≤ tc := by omega
  have HF1 := hid (hfc.trans hf1 (fun _ _ h => h))
  have HBX1 := hid (hbxc.fr hf1 (fun h => h))
  have HRS1 := hid (hrsc.fr hf1 (fun h => h))
  have HO1 := hid (ho1.mono (R2 := fun z => wc.heap.size ≤ z ∧ z < w1.heap.size) (fun z hz h => ⟨h, hz⟩))
  have hwl : w.heap.size + 1 < wc.heap.size := hrsc.lt
  have hwl1 : w.heap.size + 1 < w1.heap.size := HRS1.out.lt
  have hnw : w.heap.size ≠ w1.heap.size := by omega
  have hnw2 : ¬ (w.heap.size = w1.heap.size) := by omega
  have hnr2 : ¬ (w.heap.size + 1 = w1.heap.size) := by omega
  have hnv2 : ¬ (w1.heap.size = w.heap.size) := by omega
  clear hwc hfc hbxc hrsc hti ho1 hf1 hvT hTW HBA8 HFA8 HBX h0 h0_ lsb
  obtain ⟨vX, hvX⟩ : ∃ vX, vX = ((((vT.setIfInBounds 0 (.int .i64 gp)).toList.take 1 ++ (ints g.regs).toArray.toList ++ (vT.setIfInBounds 0 (.int .i64 gp)).toList.drop (1 + (ints g.regs).toArray.size)).toArray).setIfInBounds 17 (.slice ta kp tc)) := ⟨_, rfl⟩
  have hvs : vX = (standV (stoodAt T g) ta tc).toArray := by
    rw [hvX, HVT.out, HGP.out]
    exact stand_at T g ta tc kp HT16.out HG16.out HK.out (by have := HTW.out; omega)
  have HXD := hid (by have := stand_of (stoodAt T g) ta tc HG16.out; rw [← hvs] at this; exact this : Stand (stoodAt T g) ta tc vX)
  have HXE := hid hvX
  have HXS := hid hvs
  clear hvX hvs
  go_wp2_with (first | ((with_reducible apply wpList_allocA (ty := 45) (standV noTh none 0).toArray); (case zai => exact zTHR2); (case zac => rfl); intro wA8 hbA hfA hsA; have HBA8 := hid hbA; have HFA8 := hid hfA; clear hbA hfA hsA) | ((with_reducible apply wpList_storeA (b := w1.heap.size) (C := (standV noTh none 0).toArray) (cells := vT) (T := 45)); (case zsx => rfl); (case zsy => rfl); (case zsn => exact HSD.out.size); (case zsi => rw [HSD.out.size]; exact szTHR); (case zs1 => exact HSD.out.one); (case zsb => exact HBA8.out); intro wT hbT hfT hsT; have HVX := hid hbT; have hfm := fr_made HFA8.out hfT (Nat.le_refl _); have HFT := hid hfm; have hbx := HBX1.out.fr hfm (fun h => h); have HBXT := hid hbx; have HRST := hid (HRS1.out.fr hfm (fun h => h)); have p0 : wT.cell? ⟨w.heap.size, 0, none⟩ = some (.int .i64 gp) := ((hbx.cell 0).trans G0.out); have k19 : wT.cell? ⟨w.heap.size, 19, none⟩ = some (.int .i64 (kp : Nat)) := ((hbx.cell 19).trans G19.out); have t17 : wT.cell? ⟨w1.heap.size, 17, none⟩ = some (.slice ta TW tc) := ((HVX.out.cell 17).trans (by rw [HTW.out]; exact HSD.out.wait)); have t0 := HVX.out.cell 0; have e0 := HSD.out.place; have f0 := HVX.out.free 0; have f17 := HVX.out.free 17; have lV := HVX.out.lt; have lB := hbx.lt; clear hbT hfT hsT HBA8 HFA8 hfm hbx) | ((with_reducible apply wpStill_loadA (b := w.heap.size) (o := 1) (C := vG) (T := 91) (ints g.regs)); (case zlw => rfl); (case zlx => rfl); (case zlu => exact unREGS.choose_spec.1); (case zld => exact unREGS.choose_spec.2); (case zli => rw [ints_length, HG16.out]; exact szREGS); (case zlb => exact HBXT.out); (case zlc => exact HGR.out); refine wpStill_nil ?_; go_simp) | ((with_reducible apply same_loadR (b := w.heap.size) (o := 1) (C := vG) (T := 91) (ints g.regs)); (case zlw => rfl); (case zlv => rfl); (case zlx => rfl); (case zlu => exact unREGS.choose_spec.1); (case zld => exact unREGS.choose_spec.2); (case zli => rw [ints_length, HG16.out]; exact szREGS); (case zlb => exact Blk.set_ne HBXT.out hnw _); (case zlc => exact HGR.out)) | ((with_reducible apply wpList_storeAt (b := w1.heap.size) (o := 1) (C := vT.setIfInBounds 0 (.int .i64 gp)) (cells := (ints g.regs).toArray) (T := 45)); (case zsx => rfl); (case zsy => rfl); (case zsn => simp [ints_length, HG16.out, HSD.out.size]); (case zsi => rw [List.size_toArray, ints_length, HG16.out]; exact szREGS); (case zs1 => (rw [List.all_eq_true]; exact ints_one _)); (case zsb => exact Blk.set HVX.out 0 (.int .i64 gp)); intro wR hbR hfR hsR; have HVR := hid hbR; have hfr : Fr (fun z => z = w1.heap.size) wT wR := Fr.trans (show Fr (fun z => z = w1.heap.size) wT _ from (by (repeat' (first | with_reducible exact Fr.refl _ _ | with_reducible apply Fr.drew | (with_reducible refine Fr.setCell ?_ (fun _ => ?_) _))) <;> rfl)) hfR (fun _ _ h => h); have HFR := hid hfr; have hbx := HBXT.out.fr hfr hnw2; have HRSR := hid (HRST.out.fr hfr hnr2); have k19r : wR.cell? ⟨w.heap.size, 19, none⟩ = some (.int .i64 (kp : Nat)) := ((hbx.cell 19).trans G19.out); have f17r := HVR.out.free 17; obtain ⟨u17, hu17⟩ : ∃ u, wR.cell? ⟨w1.heap.size, 17, none⟩ = some u := ⟨_, (HVR.out.cell 17).trans (Array.getElem?_eq_getElem (by simp [ints_length, HG16.out, HSD.out.size]))⟩; have lVr := HVR.out.lt; have lBr := hbx.lt; clear hbR hfR hsR hfr hbx p0 k19 t17 t0 f0 f17) | ((with_reducible apply wpList_loadA (b := w1.heap.size) (C := vX) (T := 45)); (case zlx => rfl); (case zlu => exact unTHR.choose_spec.1); (case zld => exact unTHR.choose_spec.2); (case zli => rw [HXD.out.size]; exact szTHR); (case zlb => (rw [HXE.out]; (repeat (with_reducible apply Blk.drew)); exact Blk.set HVR.out 17 _))) | ((with_reducible apply wpList_storeA (b := w.heap.size + 1) (C := (standV noTh none 0).toArray) (cells := vX) (T := 45)); (case zsx => rfl); (case zsy => rfl); (case zsn => exact HXD.out.size); (case zsi => rw [HXD.out.size]; exact szTHR); (case zs1 => exact HXD.out.one); (case zsb => ((repeat (with_reducible apply Blk.drew)); exact Blk.set_ne HRSR.out hnr2 _)); intro w9 hb9 hf9 hs9; have HB9 := hid hb9; have HF9 := hid hf9; clear hb9 hf9 hs9) | still_step | (with_reducible first | refine wpStill_nil ?_ | refine Flow.Both.mk ?_ ?_ | exact True.intro) | (with_reducible refine Flow.same_mk rfl rfl rfl ?_; go_simp; done) | (with_reducible exact Flow.same_un rfl rfl rfl) | (with_reducible refine Flow.region_flow (id := 2) [0, 1, 3, 0, 8, 24, 0, 64, 0, 256, 960, 199, 2247, 6399, 14591, 32767, 65535] 86016 45055 [(0, none), (1, none), (2, none), (3, none), (4, none), (5, none), (6, none), (7, none), (8, none), (9, none), (10, none), (11, none), (12, some [3, 4, 5, 8, 9, 10]), (13, none), (14, some [8, 9, 10]), (15, none), (16, some [])] mixed ?hB ?_; (case hB => decide +kernel); simp only [Flow.textOf, Flow.q1, Flow.q2, Flow.q3, Flow.q4, Flow.q5, Flow.q6, Flow.q7, Flow.q8, Flow.q9, Flow.wpFl, Flow.SameAll]) | (refine Flow.region_still mixed ?hB ?_; (case hB => decide +kernel)))
  refine bodyPost_ret (HRES.out _ HXD.out.size _ _ _ rfl HB9.out) rfl ?_
  rw [HXS.out]
  have hfr9 : Fr (fun z => z = w.heap.size + 1 ∨ z = w1.heap.size) w1 w9 := by
    have ha : Fr (fun z => z = w.heap.size + 1 ∨ z = w1.heap.size) w1 wR := (HFT.out.mono (fun _ _ h => h.elim)).trans HFR.out (fun _ _ h => .inr h)
    exact Fr.trans (show Fr (fun z => z = w.heap.size + 1 ∨ z = w1.heap.size) w1 _ from (by (repeat' (first | with_reducible exact ha | with_reducible apply Fr.drew | (with_reducible refine Fr.setCell ?_ (fun _ => ?_) _))) <;> exact Or.inr rfl)) HF9.out (fun _ _ h => .inl h)
  have hFF : Fr (fun _ => False) w w9 := HF1.out.trans hfr9 (fun z hz e => by rcases e with e | e <;> omega)
  have hsh := HO1.out.shrink (m := kp) (by have := HTW.out; omega)
  rw [ent_take] at hsh
  exact ⟨ta, tc, rfl, (hsh.fr hfr9 (fun z hz e => by have := hz.1; have := hz.2; rcases e with e | e <;> omega)).mono (fun z _ h => by have := h.1; omega), hFF⟩
end Go.Proofs.Ytbfeopakmjcapaa.Sp

/-
  How a thread would stand, if all guesses were taken back.
-/
namespace Go.Proofs.Ytbfeopakmjcapaa.Sp
open Go.RowKit Go.Proofs.Ytbfeopakmjcapaa.Seq Go.Proofs.Ytbfeopakmjcapaa.Tso
attribute [local irreducible] wpStill wpList Calls CallsIn

theorem run_loadV {P : Program} {w : World} {op : Oper} {a : Act} {ty : TypeId} {x : Operand} {b o : Nat} (cs : List Value) (hc : ∀ j v, cs[j]? = some v → w.cell? ⟨b, o + j, none⟩ = some v) (ho : op.op = .load ty x)
    (hx : a.eval x = .pointer (some ⟨b, o, none⟩)) {d : TypeDesc} (hu : P.underlying ty = some d) (hd : d.isRow = true) (hi : (P.info? ty).map (·.size) = some cs.length) : (execOp a.eval op).run P w = .ok (.value (.agg cs.toArray)) w := by
  unfold execOp
  simp only [ho, hx, Instr.loadAt, Instr.sureAddr, Sem.run_bind, Sem.run_pure, Result.andThen_ok, run_loadVar_mid w b o ty cs d hc hu hd hi]
theorem wpList_loadV {P : Program} {ops : Array Oper} {rest : List Oper} {dst : Option Tmp} {ty tt : TypeId} {x : Operand} {ps : String} {af : Array Edge} {a : Act} {w : World} {Q : Exit → Act → World → Prop} {b o : Nat} {d : TypeDesc} (cs : List Value) (C : Array Value)
    (zlx : a.eval x = .pointer (some ⟨b, o, none⟩)) (zlu : P.underlying ty = some d) (zld : d.isRow = true) (zli : (P.info? ty).map (·.size) = some cs.length) (zlc : ∀ j v, cs[j]? = some v → w.cell? ⟨b, o + j, none⟩ = some v) (zle : C = cs.toArray)
    (zlK : wpList P ops Q rest (a.put dst (.agg C)) w) : wpList P ops Q (⟨dst, .load ty x, tt, ps, af, none⟩ :: rest) a w := by
  subst zle
  exact wpList_gives rfl (run_loadV cs zlc rfl zlx zlu zld zli) zlK
theorem szG : (Try.prog.info? 91).map (·.size) = some 21 := by kernel_rfl

theorem sure_is (SB : Nat) (R : Nat → Prop) (s : SM) (n : Int) (w : World) (h : SR w R SB s) (hok : OkS s) :
    Calls Try.prog 18 #[.pointer (some ⟨SB, 0, none⟩), .int .i64 n] w fun e w' => ∃ a c, e = .returned (.agg (standV (s.sure n) a c).toArray) ∧
      OwnAt w' 124 2 (fun z => w.heap.size ≤ z) a (s.sure n).wait.length c (ent (s.sure n).wait) ∧ Fr (fun _ => False) w w' := by
  have HSR := hid h
  obtain ⟨B, OB, oc, ids, D, A, C, V, G, Rm, h⟩ := h
  have HH := hid h
  have h0 := h.head.cell 0
  have h1 := h.head.cell 1
  have hgs := fun (w1 : World) (hf : Fr (fun _ => False) w w1) => guesses_is SB B OB oc s.op.length n s.window w1 (hf.cell h0 (fun h => h)) (hf.cell h1 (fun h => h))
  have HG := hid hgs
  have hres := fun (C : Array Value) (hC : C.size = 19) (tmps : Array Value) (w : World) (b : Nat) (ha : tmps.getD 4 undef = .pointer (some ⟨b, 0, none⟩)) (hb : Blk w b C 45) => results_c1 (P := Try.prog) Try.results18 ha hb unTHR.choose_spec.1 unTHR.choose_spec.2 (by rw [hC]; exact szTHR)
  have HRES := hid hres
  obtain ⟨SU, hSU⟩ : ∃ SU, SU = s.sure n := ⟨_, rfl⟩
  rw [← hSU]
  have HSU := hid hSU
  have hsu := hSU
  unfold SM.sure at hsu
  have hc := sr_cases h n
  clear h h0 h1 hgs hres hSU
  go_enter Try.func18, Try.ntmps18
  go_wp2_with (first | ((with_reducible apply wpList_allocA (ty := 45) (standV noTh none 0).toArray); (case zai => exact zTHR2); (case zac => rfl); intro wA8 hbA hfA hsA; have HBA8 := hid hbA; have HFA8 := hid hfA; clear hbA hfA hsA) | still_step | (with_reducible first | refine wpStill_nil ?_ | refine Flow.Both.mk ?_ ?_ | exact True.intro) | (with_reducible refine Flow.same_mk rfl rfl rfl ?_; go_simp; done) | (with_reducible exact Flow.same_un rfl rfl rfl) | (refine Flow.region_still mixed ?hB ?_; (case hB => decide +kernel)))
  go_at_call 38
  refine Calls.named fun wc hwc => ?_
  have hfc : Fr (fun _ => False) w wc := by rw [hwc]; exact HFA8.out
  have hbc : Blk wc w.heap.size (standV noTh none 0).toArray 45 := by rw [hwc]; exact HBA8.out
  refine (HG.out wc hfc).mono ?_
  rintro e w1 ⟨rfl, hf1⟩
  have HF1 := hid (hfc.trans hf1 (fun _ _ h => h))
  have HB1 := hid (hbc.fr hf1 (fun h => h))
  clear hwc hfc hbc hf1 HBA8 HFA8 HG
  have plain : SU = (s.x.th n).getD noTh → True := fun _ => trivial
  rcases hc with ⟨hn, hb⟩ | ⟨k, o, rfl, hk, hg, hgo, c0, c1⟩
  · rw [hn] at hsu
    dsimp only at hsu
    rw [if_neg (by omega)]
    go_wp2_with (first | still_step | (with_reducible first | refine wpStill_nil ?_ | refine Flow.Both.mk ?_ ?_ | exact True.intro) | (with_reducible refine Flow.same_mk rfl rfl rfl ?_; go_simp; done) | (with_reducible exact Flow.same_un rfl rfl rfl) | (refine Flow.region_still mixed ?hB ?_; (case hB => decide +kernel)))
    go_at_call 14
    refine Calls.named fun wc hwc => ?_
    have hfc : Fr (fun _ => False) w1 wc := by rw [hwc]; (with_reducible repeat' (first | exact Fr.refl _ _ | apply Fr.alloc | apply Fr.drew | apply Fr.drewN | refine Fr.setCell ?_ ?_ _))
    have hfw := HF1.out.trans hfc (fun _ _ h => h)
    have HFC := hid hfc
    have HFW := hid hfw
    have hwq := hwc
    clear hwc hfc hfw
    have hbc := HB1.out.fr HFC.out (fun h => h)
    refine (sthread_is SB R s _ wc (HSR.out.fr HFW.out (fun _ _ h => h))).mono ?_
    rintro e w2 ⟨ta, tc, rfl, ho2, hf2⟩
    rw [← hsu] at ho2 ⊢
    have h16 : SU.regs.length = 16 := by rw [hsu]; exact regs16 HH.out.mr _
    obtain ⟨vT, hvT⟩ : ∃ vT, vT = (standV SU ta tc).toArray := ⟨_, rfl⟩
    have HSD := hid (by have := stand_of SU ta tc h16; rw [← hvT] at this; exact this : Stand SU ta tc vT)
    rw [← hvT]
    have HVT := hid hvT
    have HF2 := hid (HFW.out.trans hf2 (fun _ _ h => h))
    have HB2 := hid (hbc.fr hf2 (fun h => h))
    have hwl : w.heap.size < wc.heap.size := hbc.lt
    have HO2 := hid (ho2.mono (R2 := fun z => wc.heap.size ≤ z) (fun z _ h => h))
    clear hwq hbc ho2 hf2 HFC HFW HF1 HB1 hvT
    go_wp2_with (first | ((with_reducible apply wpList_storeA (b := w.heap.size) (C := (standV noTh none 0).toArray) (cells := vT) (T := 45)); (case zsx => rfl); (case zsy => rfl); (case zsn => exact HSD.out.size); (case zsi => rw [HSD.out.size]; exact szTHR); (case zs1 => exact HSD.out.one); (case zsb => exact HB2.out); intro w9 hb9 hf9 hs9; have HB9 := hid hb9; have HF9 := hid hf9; clear hb9 hf9 hs9) | still_step | (with_reducible first | refine wpStill_nil ?_ | refine Flow.Both.mk ?_ ?_ | exact True.intro) | (with_reducible refine Flow.same_mk rfl rfl rfl ?_; go_simp; done) | (with_reducible exact Flow.same_un rfl rfl rfl) | (refine Flow.region_still mixed ?hB ?_; (case hB => decide +kernel)))
    refine bodyPost_ret (HRES.out _ HSD.out.size _ _ _ rfl HB9.out) rfl ?_
    have hF9 : Fr (fun z => z = w.heap.size) w2 w9 := by first | exact HF9.out | exact (Fr.refl _ _).drew.trans HF9.out (fun _ _ h => h)
    rw [HVT.out]
    exact ⟨ta, tc, rfl, (HO2.out.fr hF9 (fun z hz e => by omega)).mono (fun z _ h => by omega), fr_weaken HF2.out hF9 (Nat.le_refl _)⟩
  · rw [hg] at hsu
    rw [if_pos (by omega), show ((k : Nat) : Int).toNat = k by simp]
    obtain ⟨ol, os⟩ := o
    (try dsimp only at c0 c1 hsu)
    have c0_ := Fr.cell HF1.out c0 (fun h => h)
    clear c0
    have c0 := c0_
    clear c0_
    cases ol with
    | nil =>
      (try dsimp only at hsu)
      dsimp only [List.length_nil] at c0
      go_wp2_with (first | still_step | (with_reducible first | refine wpStill_nil ?_ | refine Flow.Both.mk ?_ ?_ | exact True.intro) | (with_reducible refine Flow.same_mk rfl rfl rfl ?_; go_simp; done) | (with_reducible exact Flow.same_un rfl rfl rfl) | (refine Flow.region_still mixed ?hB ?_; (case hB => decide +kernel)))
      go_at_call 14
      refine Calls.named fun wc hwc => ?_
      have hfc : Fr (fun _ => False) w1 wc := by rw [hwc]; (with_reducible repeat' (first | exact Fr.refl _ _ | apply Fr.alloc | apply Fr.drew | apply Fr.drewN | refine Fr.setCell ?_ ?_ _))
      have hfw := HF1.out.trans hfc (fun _ _ h => h)
      have HFC := hid hfc
      have HFW := hid hfw
      have hwq := hwc
      clear hwc hfc hfw
      have hbc := HB1.out.fr HFC.out (fun h => h)
      refine (sthread_is SB R s _ wc (HSR.out.fr HFW.out (fun _ _ h => h))).mono ?_
      rintro e w2 ⟨ta, tc, rfl, ho2, hf2⟩
      rw [← hsu] at ho2 ⊢
      have h16 : SU.regs.length = 16 := by rw [hsu]; exact regs16 HH.out.mr _
      obtain ⟨vT, hvT⟩ : ∃ vT, vT = (standV SU ta tc).toArray := ⟨_, rfl⟩
      have HSD := hid (by have := stand_of SU ta tc h16; rw [← hvT] at this; exact this : Stand SU ta tc vT)
      rw [← hvT]
      have HVT := hid hvT
      have HF2 := hid (HFW.out.trans hf2 (fun _ _ h => h))
      have HB2 := hid (hbc.fr hf2 (fun h => h))
      have hwl : w.heap.size < wc.heap.size := hbc.lt
      have HO2 := hid (ho2.mono (R2 := fun z => wc.heap.size ≤ z) (fun z _ h => h))
      clear hwq hbc ho2 hf2 HFC HFW HF1 HB1 hvT
      go_wp2_with (first | ((with_reducible apply wpList_storeA (b := w.heap.size) (C := (standV noTh none 0).toArray) (cells := vT) (T := 45)); (case zsx => rfl); (case zsy => rfl); (case zsn => exact HSD.out.size); (case zsi => rw [HSD.out.size]; exact szTHR); (case zs1 => exact HSD.out.one); (case zsb => exact HB2.out); intro w9 hb9 hf9 hs9; have HB9 := hid hb9; have HF9 := hid hf9; clear hb9 hf9 hs9) | still_step | (with_reducible first | refine wpStill_nil ?_ | refine Flow.Both.mk ?_ ?_ | exact True.intro) | (with_reducible refine Flow.same_mk rfl rfl rfl ?_; go_simp; done) | (with_reducible exact Flow.same_un rfl rfl rfl) | (refine Flow.region_still mixed ?hB ?_; (case hB => decide +kernel)))
      refine bodyPost_ret (HRES.out _ HSD.out.size _ _ _ rfl HB9.out) rfl ?_
      have hF9 : Fr (fun z => z = w.heap.size) w2 w9 := by first | exact HF9.out | exact (Fr.refl _ _).drew.trans HF9.out (fun _ _ h => h)
      rw [HVT.out]
      exact ⟨ta, tc, rfl, (HO2.out.fr hF9 (fun z hz e => by omega)).mono (fun z _ h => by omega), fr_weaken HF2.out hF9 (Nat.le_refl _)⟩
    | cons g r =>
      obtain ⟨t, ht, hop, ht16, hwt⟩ := hok.thread hgo
      have hT : (s.x.th (k : Int)).getD noTh = t := by rw [th_nat ht]; rfl
      have hkp := hop.kept 0 g rfl
      have hg16 := hop.regs g (by simp)
      obtain ⟨kp, hkpe⟩ : ∃ kp : Nat, g.kept = kp := ⟨g.kept.toNat, by omega⟩
      have hkle : kp ≤ ((s.x.th (k : Int)).getD noTh).wait.length := by rw [hT]; omega
      obtain ⟨hv1, hv2, hv3⟩ := HH.out.vals k _ hgo
      obtain ⟨p0, hp0, hpg⟩ : ∃ p0, (V k)[0]? = some p0 ∧ p0.1 = g := by
        (try dsimp only at hv1)
        cases hv : V k with
        | nil => rw [hv] at hv1; cases hv1
        | cons p q => rw [hv] at hv1; simp at hv1; exact ⟨p, rfl, hv1.1⟩
      obtain ⟨g', gv⟩ := p0
      dsimp only at hpg
      subst hpg
      have hvr : ∀ p ∈ V k, p.1.regs.length = 16 := fun p hp => (hv2 p hp).2
      have hrow := hv3.fr HF1.out (fun _ _ h => h)
      obtain ⟨rr, off, hA, hGr, hcell⟩ := hrow.vw.cell (fun e => by have := gsC_get hvr hp0 (gC_kept hg16); rw [e] at this; simp at this)
      have hcl : ∀ j u, (gC (g', gv))[j]? = some u → w1.cell? ⟨rr, off + j, none⟩ = some u := fun j u hj => hcell j u (by have := gsC_get hvr hp0 hj; simpa using this)
      obtain ⟨vG, hvG⟩ : ∃ vG, vG = (gC (g', gv)).toArray := ⟨_, rfl⟩
      have HVG := hid hvG
      have HCELL := hid hcl
      have HG16 := hid hg16
      have HKP := hid hkpe
      have HKLE := hid hkle
      have h16 : SU.regs.length = 16 := by rw [hsu]; exact hg16
      have H16 := hid h16
      have HSS := hid hsu
      have lrr : rr < w1.heap.size := World.block_lt_of_cell? _ _ (hcl 0 _ rfl)
      obtain ⟨LL, hLL⟩ : ∃ LL, LL = r.length := ⟨_, rfl⟩
      dsimp only [List.length_cons] at c0
      rw [hA, ← hLL] at c0
      clear hT hkp hg16 hkpe hkle hv1 hv2 hv3 hp0 hvr hrow hcell hcl hvG h16 hsu hop ht ht16 hwt hGr hLL c1 hg hgo hA hok
      go_wp2_with (first | ((with_reducible apply wpList_loadV (b := rr) (o := off) (gC (g', gv)) vG); (case zlx => rfl); (case zlu => exact unG.choose_spec.1); (case zld => exact unG.choose_spec.2); (case zli => rw [gC_length HG16.out]; exact szG); (case zlc => exact HCELL.out); (case zle => exact HVG.out)) | still_step | (with_reducible first | refine wpStill_nil ?_ | refine Flow.Both.mk ?_ ?_ | exact True.intro) | (with_reducible refine Flow.same_mk rfl rfl rfl ?_; go_simp; done) | (with_reducible exact Flow.same_un rfl rfl rfl) | (refine Flow.region_still mixed ?hB ?_; (case hB => decide +kernel)))
      go_at_call 43
      refine Calls.named fun wc hwc => ?_
      have hfc : Fr (fun _ => False) w1 wc := by rw [hwc]; (with_reducible repeat' (first | exact Fr.refl _ _ | apply Fr.alloc | apply Fr.drew | apply Fr.drewN | refine Fr.setCell ?_ ?_ _))
      have hfw := HF1.out.trans hfc (fun _ _ h => h)
      have HFC := hid hfc
      have HFW := hid hfw
      have hwq := hwc
      clear hwc hfc hfw
      have hbc := HB1.out.fr HFC.out (fun h => h)
      have hai := at_is (HH.out.fr HFW.out (fun _ _ h => h)) (k : Int) g' gv kp HG16.out HKP.out HKLE.out
      rw [← HVG.out] at hai
      refine hai.mono ?_
      rintro e w2 ⟨ta, tc, rfl, ho2, hf2⟩
      rw [← HSS.out]
      have hwe : SU.wait = ((s.x.th (k : Int)).getD noTh).wait.take kp := by
        rw [HSS.out]
        unfold stoodAt
        rw [HKP.out]
        simp
      have hwlen : SU.wait.length = kp := by rw [hwe, List.length_take]; exact Nat.min_eq_left HKLE.out
      rw [← hwe, ← hwlen] at ho2
      obtain ⟨vT, hvT⟩ : ∃ vT, vT = (standV SU ta tc).toArray := ⟨_, rfl⟩
      have HSD := hid (by have := stand_of SU ta tc H16.out; rw [← hvT] at this; exact this : Stand SU ta tc vT)
      rw [← hvT]
      have HVT := hid hvT
      have HF2 := hid (HFW.out.trans hf2 (fun _ _ h => h))
      have HB2 := hid (hbc.fr hf2 (fun h => h))
      have hwl : w.heap.size < wc.heap.size := hbc.lt
      have HO2 := hid (ho2.mono (R2 := fun z => wc.heap.size ≤ z) (fun z _ h => h))
      clear hwq hbc ho2 hf2 HFC HFW HF1 HB1 hvT hwe hwlen hai
      go_wp2_with (first | ((with_reducible apply wpList_storeA (b := w.heap.size) (C := (standV noTh none 0).toArray) (cells := vT) (T := 45)); (case zsx => rfl); (case zsy => rfl); (case zsn => exact HSD.out.size); (case zsi => rw [HSD.out.size]; exact szTHR); (case zs1 => exact HSD.out.one); (case zsb => exact HB2.out); intro w9 hb9 hf9 hs9; have HB9 := hid hb9; have HF9 := hid hf9; clear hb9 hf9 hs9) | still_step | (with_reducible first | refine wpStill_nil ?_ | refine Flow.Both.mk ?_ ?_ | exact True.intro) | (with_reducible refine Flow.same_mk rfl rfl rfl ?_; go_simp; done) | (with_reducible exact Flow.same_un rfl rfl rfl) | (refine Flow.region_still mixed ?hB ?_; (case hB => decide +kernel)))
      refine bodyPost_ret (HRES.out _ HSD.out.size _ _ _ rfl HB9.out) rfl ?_
      have hF9 : Fr (fun z => z = w.heap.size) w2 w9 := by first | exact HF9.out | exact (Fr.refl _ _).drew.trans HF9.out (fun _ _ h => h)
      rw [HVT.out]
      exact ⟨ta, tc, rfl, (HO2.out.fr hF9 (fun z hz e => by omega)).mono (fun z _ h => by omega), fr_weaken HF2.out hF9 (Nat.le_refl _)⟩
end Go.Proofs.Ytbfeopakmjcapaa.Sp
