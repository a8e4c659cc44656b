/-
  The beginning of a guess: what is asked ahead of it.
-/
import Derived.Test.YtbfeopakmjcapaaSpE
set_option linter.unusedVariables false
set_option linter.unusedSimpArgs false
set_option maxHeartbeats 4000000
set_option maxRecDepth 8000
namespace Go.Proofs.Ytbfeopakmjcapaa.Sp
open Go.RowKit Go.Proofs.Ytbfeopakmjcapaa.Seq Go.Proofs.Ytbfeopakmjcapaa.Tso
attribute [local irreducible] wpStill wpList Calls CallsIn

theorem zTHR2 : (Try.prog.info? 45).map (fun i => (i.zero, i.size)) = some (some (.agg (standV noTh none 0).toArray), 19) := by kernel_rfl
theorem results_tcct {P : Program} {fn : Func} {s a b t : Tmp} {T U : TypeId} (h : fn.results = #[.tmp s, .cell a T, .cell b U, .tmp t]) {tmps : Array Value} {w : World} {x y : Nat} {C1 C2 : Array Value} {E1 E2 : TypeId} (ha : tmps.getD a undef = .pointer (some ⟨x, 0, none⟩)) (hb1 : Blk w x C1 E1) (hb : tmps.getD b undef = .pointer (some ⟨y, 0, none⟩)) (hb2 : Blk w y C2 E2)
    {d1 d2 : TypeDesc} (hu1 : P.underlying T = some d1) (hd1 : d1.isRow = true) (hi1 : (P.info? T).map (·.size) = some C1.size) (hu2 : P.underlying U = some d2) (hd2 : d2.isRow = true) (hi2 : (P.info? U).map (·.size) = some C2.size) :
    (results fn tmps).run P w = .ok (.tuple #[tmps.getD s undef, .agg C1, .agg C2, tmps.getD t undef]) w := by
  have hl1 := load_blk (P := P) (ty := T) hb1 0 C1.toList (fun j v hj => by simpa using hj) hu1 hd1 (by simpa using hi1)
  have hl2 := load_blk (P := P) (ty := U) hb2 0 C2.toList (fun j v hj => by simpa using hj) hu2 hd2 (by simpa using hi2)
  rw [Array.getD_eq_getD_getElem?] at ha hb
  simp only [results, h]
  simp [Array.mapM_eq_foldlM, ha, hb, asAddr]
  simp at hl1 hl2
  rw [hl1]
  simp [hl2]

theorem begin_is {w : World} {SB B OB oc : Nat} {ids : List (Nat × Nat)} {D : Array Value} {A : Nat → Option Addr} {C : Nat → Nat} {V : Nat → List (Gs × Value)} {G : Nat → Nat → Prop} {Rm R : Nat → Prop} {s : SM} (h : SRep w SB B OB oc ids D A C V G Rm R s) {k : Nat} {o : Op} (hgo : s.op[k]? = some o) (kind : Int) :
    Calls Try.prog 59 #[.pointer (some ⟨SB, 0, none⟩), .int .i64 (k : Int), .int .i64 kind] w fun e w' => ∃ ta tc, e = .returned (.tuple #[.pointer (some ⟨OB, k * 2, none⟩), .agg (insC ((s.x.next (k : Int)).getD noneI)).toArray, .agg (standV ((s.x.th (k : Int)).getD noTh) ta tc).toArray, .bool (decide (s.begins (k : Int) o kind))]) ∧
      OwnAt w' 124 2 (fun z => w.heap.size ≤ z) ta ((s.x.th (k : Int)).getD noTh).wait.length tc (ent ((s.x.th (k : Int)).getD noTh).wait) ∧ Fr (fun _ => False) w w' := by
  have HH := hid h
  have hk := (List.getElem?_eq_some_iff.1 hgo).1
  have h0 : w.cell? ⟨SB, 0, none⟩ = some (.pointer (some ⟨B, 0, none⟩)) := h.head.cell 0
  have h1 : w.cell? ⟨SB, 1, none⟩ = some (.slice (some ⟨OB, 0, none⟩) s.op.length oc) := h.head.cell 1
  have h2 : w.cell? ⟨SB, 2, none⟩ = some (.int .i64 s.window) := h.head.cell 2
  have c1 : w.cell? ⟨OB, k * 2 + 1, none⟩ = some (.int .i64 o.2) := by rw [h.opens.cell]; exact (h.cells k _ hgo).2
  have hgs := fun (w1 : World) (hf : Fr (fun _ => False) w w1) => guesses_is SB B OB oc s.op.length (k : Int) s.window w1 (hf.cell h0 (fun h => h)) (hf.cell h1 (fun h => h))
  have HG := hid hgs
  obtain ⟨iv, hiv⟩ : ∃ iv, iv = (s.x.next (k : Int)).getD noneI := ⟨_, rfl⟩
  obtain ⟨nis, hnis⟩ : ∃ b, b = (s.x.next (k : Int)).isSome := ⟨_, rfl⟩
  have hbg : decide (s.begins (k : Int) o kind) = (nis && (iv.k == kind && decide (o.2 < s.window))) := by
    have hb : s.begins (k : Int) o kind ↔ (nis = true ∧ iv.k = kind ∧ o.2 < s.window) := by rw [hiv, hnis]; exact Iff.rfl
    apply Bool.eq_iff_iff.2
    simp [hb]
  rw [hbg, ← hiv]
  have hnx := fun (w1 : World) (hm : MR w1 Rm B ids s.x) => next_is B Rm ids s.x (k : Int) w1 hm
  rw [← hiv, ← hnis] at hnx
  have HNX := hid hnx
  obtain ⟨SL, hSL⟩ : ∃ SL, SL = s.op.length := ⟨_, rfl⟩
  rw [← hSL] at hk
  have HSL := hid hSL
  generalize s.window = W at *
  obtain ⟨ol, os⟩ := o
  obtain ⟨ik, iop, idd, ia, ib, inn, ito⟩ := iv
  (try dsimp only [insC] at c1 ⊢)
  have HL7 := hid ((Blk.new w #[.int .i64 0, .int .i64 0, .int .i64 0, .int .i64 0, .int .i64 0, .int .i64 0, .int .i64 0] 57).alloc (.cells (standV noTh none 0).toArray 45))
  have hres := fun (C1 C2 : Array Value) (hC1 : C1.size = 7) (hC2 : C2.size = 19) (tmps : Array Value) (w : World) (x y : Nat) (ha : tmps.getD 7 undef = .pointer (some ⟨x, 0, none⟩)) (hb1 : Blk w x C1 57) (hb : tmps.getD 8 undef = .pointer (some ⟨y, 0, none⟩)) (hb2 : Blk w y C2 45) => results_tcct (P := Try.prog) Try.results59 ha hb1 hb hb2 unINS.choose_spec.1 unINS.choose_spec.2 (by rw [hC1]; exact szINS) unTHR.choose_spec.1 unTHR.choose_spec.2 (by rw [hC2]; exact szTHR)
  have HRES := hid hres
  have lsbw := h.head.lt
  have lobw := h.opens.lt
  clear h h1 hgo hgs hiv hnis hbg hnx hSL hres
  go_enter Try.func59, Try.ntmps59
  go_wp2_with (first | ((with_reducible apply wpList_allocA (ty := 45) (standV noTh none 0).toArray); (case zai => exact zTHR2); (case zac => rfl); intro wA7 hbA hfA hsA; have HBA7 := hid hbA; have HFA7 := hid hfA; clear hbA hfA hsA) | still_step | (with_reducible first | refine wpStill_nil ?_ | refine Flow.Both.mk ?_ ?_ | exact True.intro) | (with_reducible refine Flow.same_mk rfl rfl rfl ?_; go_simp; done) | (with_reducible exact Flow.same_un rfl rfl rfl) | (with_reducible refine Flow.region_flow (id := 3) [0, 0, 0, 4, 12, 28, 0, 124, 0, 508, 1020, 2044, 1020, 8188, 16380, 32764, 65532, 131068, 262140, 524284, 65532, 1114108, 3211260, 7405564, 16777212, 33554428, 65533, 67174399, 201392127, 536870911] 402653312 32386106 [(0, none), (1, none), (2, none), (3, none), (4, none), (5, none), (6, none), (8, none), (7, some [1]), (9, none), (10, none), (11, none), (12, none), (13, none), (14, none), (15, none), (16, none), (17, none), (18, none), (19, none), (20, none), (21, none), (22, none), (23, none), (24, none), (25, none), (26, none), (27, some [17, 18, 19, 21, 22, 23, 24]), (28, some [17, 18, 19, 21, 22, 23, 24]), (29, none)] mixed ?hB ?_; (case hB => decide +kernel); simp only [Flow.textOf, Flow.q1, Flow.q2, Flow.q3, Flow.q4, Flow.q5, Flow.q6, Flow.q7, Flow.q8, Flow.q9, Flow.wpFl, Flow.SameAll]) | (refine Flow.region_still mixed ?hB ?_; (case hB => decide +kernel)))
  have hfA : Fr (fun _ => False) w wA7 := (show Fr (fun _ => False) w _ by (with_reducible repeat' (first | exact Fr.refl _ _ | apply Fr.alloc | apply Fr.drew | apply Fr.drewN | refine Fr.setCell ?_ ?_ _))).trans HFA7.out (fun _ _ h => h)
  have hb7 : Blk wA7 w.heap.size #[.int .i64 0, .int .i64 0, .int .i64 0, .int .i64 0, .int .i64 0, .int .i64 0, .int .i64 0] 57 := (Blk.new w _ _).fr HFA7.out (fun h => h)
  have hb19 : Blk wA7 (w.heap.size + 1) (standV noTh none 0).toArray 45 := by have := HBA7.out; simpa using this
  have HFA := hid hfA
  have HB7 := hid hb7
  have HB19 := hid hb19
  clear HL7 HBA7 HFA7 hfA hb7 hb19
  go_at_call 38
  refine (HG.out _ HFA.out).mono ?_
  rintro e w1 ⟨rfl, hf⟩
  rw [if_pos (by have := HSL.out; omega), show ((k : Nat) : Int).toNat = k by simp]
  have HF1 := hid (HFA.out.trans hf (fun _ _ h => h))
  have HB71 := hid (HB7.out.fr hf (fun h => h))
  have HB191 := hid (HB19.out.fr hf (fun h => h))
  have h0_ := Fr.cell HF1.out h0 (fun h => h)
  clear h0
  have h0 := h0_
  clear h0_
  have h2_ := Fr.cell HF1.out h2 (fun h => h)
  clear h2
  have h2 := h2_
  clear h2_
  have c1_ := Fr.cell HF1.out c1 (fun h => h)
  clear c1
  have c1 := c1_
  clear c1_
  clear hf HFA HB7 HB19 HG
  go_wp2_with (first | still_step | (with_reducible first | refine wpStill_nil ?_ | refine Flow.Both.mk ?_ ?_ | exact True.intro) | (with_reducible refine Flow.same_mk rfl rfl rfl ?_; go_simp; done) | (with_reducible exact Flow.same_un rfl rfl rfl) | (with_reducible refine Flow.region_flow (id := 3) [0, 0, 0, 4, 12, 28, 0, 124, 0, 508, 1020, 2044, 1020, 8188, 16380, 32764, 65532, 131068, 262140, 524284, 65532, 1114108, 3211260, 7405564, 16777212, 33554428, 65533, 67174399, 201392127, 536870911] 402653312 32386106 [(0, none), (1, none), (2, none), (3, none), (4, none), (5, none), (6, none), (8, none), (7, some [1]), (9, none), (10, none), (11, none), (12, none), (13, none), (14, none), (15, none), (16, none), (17, none), (18, none), (19, none), (20, none), (21, none), (22, none), (23, none), (24, none), (25, none), (26, none), (27, some [17, 18, 19, 21, 22, 23, 24]), (28, some [17, 18, 19, 21, 22, 23, 24]), (29, none)] mixed ?hB ?_; (case hB => decide +kernel); simp only [Flow.textOf, Flow.q1, Flow.q2, Flow.q3, Flow.q4, Flow.q5, Flow.q6, Flow.q7, Flow.q8, Flow.q9, Flow.wpFl, Flow.SameAll]) | (refine Flow.region_still mixed ?hB ?_; (case hB => decide +kernel)))
  go_at_call 55
  refine Calls.named fun wc hwc => ?_
  have hfc : Fr (fun _ => False) w1 wc := by rw [hwc]; (with_reducible repeat' (first | exact Fr.refl _ _ | apply Fr.alloc | apply Fr.drew | apply Fr.drewN | refine Fr.setCell ?_ ?_ _))
  have hfw := HF1.out.trans hfc (fun _ _ h => h)
  have HFC := hid hfc
  have HFW := hid hfw
  have hwq := hwc
  clear hwc hfc hfw
  refine (HNX.out wc (HH.out.mr.fr HFW.out (fun _ _ h => h))).mono ?_
  rintro e w2 ⟨rfl, hf2⟩
  have hf12 := HFC.out.trans hf2 (fun _ _ h => h)
  have HF2 := hid (HF1.out.trans hf12 (fun _ _ h => h))
  have HB72 := hid (HB71.out.fr hf12 (fun h => h))
  have HB192 := hid (HB191.out.fr hf12 (fun h => h))
  have h0_ := Fr.cell hf12 h0 (fun h => h)
  clear h0
  have h0 := h0_
  clear h0_
  have h2_ := Fr.cell hf12 h2 (fun h => h)
  clear h2
  have h2 := h2_
  clear h2_
  have c1_ := Fr.cell hf12 c1 (fun h => h)
  clear c1
  have c1 := c1_
  clear c1_
  have lsb2 : SB < w2.heap.size := World.block_lt_of_cell? _ _ h0
  have lob2 : OB < w2.heap.size := World.block_lt_of_cell? _ _ c1
  clear hf2 hf12 HFC HFW HF1 HB71 HB191 HNX
  dsimp only [insC]
  go_wp2_with (first | still_step | (with_reducible first | refine wpStill_nil ?_ | refine Flow.Both.mk ?_ ?_ | exact True.intro) | (with_reducible refine Flow.same_mk rfl rfl rfl ?_; go_simp; done) | (with_reducible exact Flow.same_un rfl rfl rfl) | (with_reducible refine Flow.region_flow (id := 3) [0, 0, 0, 4, 12, 28, 0, 124, 0, 508, 1020, 2044, 1020, 8188, 16380, 32764, 65532, 131068, 262140, 524284, 65532, 1114108, 3211260, 7405564, 16777212, 33554428, 65533, 67174399, 201392127, 536870911] 402653312 32386106 [(0, none), (1, none), (2, none), (3, none), (4, none), (5, none), (6, none), (8, none), (7, some [1]), (9, none), (10, none), (11, none), (12, none), (13, none), (14, none), (15, none), (16, none), (17, none), (18, none), (19, none), (20, none), (21, none), (22, none), (23, none), (24, none), (25, none), (26, none), (27, some [17, 18, 19, 21, 22, 23, 24]), (28, some [17, 18, 19, 21, 22, 23, 24]), (29, none)] mixed ?hB ?_; (case hB => decide +kernel); simp only [Flow.textOf, Flow.q1, Flow.q2, Flow.q3, Flow.q4, Flow.q5, Flow.q6, Flow.q7, Flow.q8, Flow.q9, Flow.wpFl, Flow.SameAll]) | (refine Flow.region_still mixed ?hB ?_; (case hB => decide +kernel)))
  go_at_call 40
  refine Calls.named fun wc hwc => ?_
  have hfc : Fr (fun _ => False) w2 wc := by rw [hwc]; (with_reducible repeat' (first | exact Fr.refl _ _ | apply Fr.alloc | apply Fr.drew | apply Fr.drewN | refine Fr.setCell ?_ ?_ _))
  have hfw := HF2.out.trans hfc (fun _ _ h => h)
  have HFC := hid hfc
  have HFW := hid hfw
  have hwq := hwc
  clear hwc hfc hfw
  have hix : Blk wc w2.heap.size #[.int .i64 ik, .int .i64 iop, .int .i64 idd, .int .i64 ia, .int .i64 ib, .int .i64 inn, .int .i64 ito] 57 := by rw [hwq]; (repeat (with_reducible apply Blk.drew)); exact Blk.new _ _ _
  refine (thread_is B Rm ids s.x (k : Int) wc (HH.out.mr.fr HFW.out (fun _ _ h => h))).mono ?_
  rintro e w3 ⟨ta, tc, rfl, ho3, hf3⟩
  have h16 := regs16 (HH.out.mr.fr HFW.out (fun _ _ h => h)) (k : Int)
  obtain ⟨T, hT⟩ : ∃ T, T = (s.x.th (k : Int)).getD noTh := ⟨_, rfl⟩
  rw [← hT] at ho3 h16 ⊢
  obtain ⟨vT, hvT⟩ : ∃ vT, vT = (standV T ta tc).toArray := ⟨_, rfl⟩
  have HSD := hid (by have := stand_of T ta tc h16; rw [← hvT] at this; exact this : Stand T ta tc vT)
  rw [← hvT]
  have hf23 := HFC.out.trans hf3 (fun _ _ h => h)
  have HF3 := hid (HF2.out.trans hf23 (fun _ _ h => h))
  have HB73 := hid (HB72.out.fr hf23 (fun h => h))
  have HB193 := hid (HB192.out.fr hf23 (fun h => h))
  have h0_ := Fr.cell hf23 h0 (fun h => h)
  clear h0
  have h0 := h0_
  clear h0_
  have h2_ := Fr.cell hf23 h2 (fun h => h)
  clear h2
  have h2 := h2_
  clear h2_
  have c1_ := Fr.cell hf23 c1 (fun h => h)
  clear c1
  have c1 := c1_
  clear c1_
  have hix3 := hix.fr hf3 (fun h => h)
  have hw2l : w.heap.size + 1 < w2.heap.size := HB192.out.lt
  have c0_i := Blk.cell hix3 0
  have f0_i := Blk.free hix3 0
  have c1_i := Blk.cell hix3 1
  have f1_i := Blk.free hix3 1
  have c2_i := Blk.cell hix3 2
  have f2_i := Blk.free hix3 2
  have c3_i := Blk.cell hix3 3
  have f3_i := Blk.free hix3 3
  have c4_i := Blk.cell hix3 4
  have f4_i := Blk.free hix3 4
  have c5_i := Blk.cell hix3 5
  have f5_i := Blk.free hix3 5
  have c6_i := Blk.cell hix3 6
  have f6_i := Blk.free hix3 6
  have l_i := Blk.lt hix3
  have HIX := hid hix3
  have HO3 := hid (ho3.mono (R2 := fun z => w2.heap.size ≤ z) (fun z _ h => Nat.le_trans HFC.out.size h))
  have HVT := hid hvT
  have HT := hid hT
  have lsb3 : SB < w3.heap.size := World.block_lt_of_cell? _ _ h0
  have lob3 : OB < w3.heap.size := World.block_lt_of_cell? _ _ c1
  clear hf23 hf3 ho3 hix hix3 HFC HFW HF2 HB72 HB192 h16 hvT hT
  have hn2 : ¬ (w2.heap.size = w.heap.size) := by omega
  cases nis with
  | false =>
    go_wp2_with (first | ((with_reducible apply wpList_storeA (b := w.heap.size) (C := #[.int .i64 0, .int .i64 0, .int .i64 0, .int .i64 0, .int .i64 0, .int .i64 0, .int .i64 0]) (cells := #[.int .i64 ik, .int .i64 iop, .int .i64 idd, .int .i64 ia, .int .i64 ib, .int .i64 inn, .int .i64 ito]) (T := 57)); (case zsx => rfl); (case zsy => rfl); (case zsn => rfl); (case zsi => exact szINS); (case zs1 => rfl); (case zsb => exact HB73.out); intro wa hba hfa hsa; have HBa := hid hba; have HFa := hid hfa; have h0_ := hfa.cell h0 (fun e => by have e' : SB = w.heap.size := e; omega); have h2_ := hfa.cell h2 (fun e => by have e' : SB = w.heap.size := e; omega); have c1_ := hfa.cell c1 (fun e => by have e' : OB = w.heap.size := e; omega); have hix_ := HIX.out.fr hfa (fun e => by have e' : w2.heap.size = w.heap.size := e; omega); have HIXa := hid hix_; have c0_i_ := hix_.cell 0; have c1_i_ := hix_.cell 1; have c2_i_ := hix_.cell 2; have c3_i_ := hix_.cell 3; have c4_i_ := hix_.cell 4; have c5_i_ := hix_.cell 5; have c6_i_ := hix_.cell 6; clear h0 h2 c1 c0_i c1_i c2_i c3_i c4_i c5_i c6_i; have h0 := h0_; have h2 := h2_; have c1 := c1_; have c0_i := c0_i_; have c1_i := c1_i_; have c2_i := c2_i_; have c3_i := c3_i_; have c4_i := c4_i_; have c5_i := c5_i_; have c6_i := c6_i_; clear h0_ h2_ c1_ c0_i_ c1_i_ c2_i_ c3_i_ c4_i_ c5_i_ c6_i_; clear hba hfa hix_) | ((with_reducible apply wpList_storeA (b := w.heap.size + 1) (C := (standV noTh none 0).toArray) (cells := vT) (T := 45)); (case zsx => rfl); (case zsy => rfl); (case zsn => exact HSD.out.size); (case zsi => rw [HSD.out.size]; exact szTHR); (case zs1 => exact HSD.out.one); (case zsb => exact HB193.out.fr HFa.out (fun e => by have e' : w.heap.size + 1 = w.heap.size := e; omega)); intro wb hbb hfb hsb; have HBb := hid hbb; have HFb := hid hfb; have h0_ := hfb.cell h0 (fun e => by have e' : SB = w.heap.size + 1 := e; omega); have h2_ := hfb.cell h2 (fun e => by have e' : SB = w.heap.size + 1 := e; omega); have c1_ := hfb.cell c1 (fun e => by have e' : OB = w.heap.size + 1 := e; omega); have hix_ := HIXa.out.fr hfb (fun e => by have e' : w2.heap.size = w.heap.size + 1 := e; omega); have c0_i_ := hix_.cell 0; have c1_i_ := hix_.cell 1; have c2_i_ := hix_.cell 2; have c3_i_ := hix_.cell 3; have c4_i_ := hix_.cell 4; have c5_i_ := hix_.cell 5; have c6_i_ := hix_.cell 6; clear h0 h2 c1 c0_i c1_i c2_i c3_i c4_i c5_i c6_i; have h0 := h0_; have h2 := h2_; have c1 := c1_; have c0_i := c0_i_; have c1_i := c1_i_; have c2_i := c2_i_; have c3_i := c3_i_; have c4_i := c4_i_; have c5_i := c5_i_; have c6_i := c6_i_; clear h0_ h2_ c1_ c0_i_ c1_i_ c2_i_ c3_i_ c4_i_ c5_i_ c6_i_; clear hbb hfb hix_) | still_step | (with_reducible first | refine wpStill_nil ?_ | refine Flow.Both.mk ?_ ?_ | exact True.intro) | (with_reducible refine Flow.same_mk rfl rfl rfl ?_; go_simp; done) | (with_reducible exact Flow.same_un rfl rfl rfl) | (with_reducible refine Flow.region_flow (id := 3) [0, 0, 0, 4, 12, 28, 0, 124, 0, 508, 1020, 2044, 1020, 8188, 16380, 32764, 65532, 131068, 262140, 524284, 65532, 1114108, 3211260, 7405564, 16777212, 33554428, 65533, 67174399, 201392127, 536870911] 402653312 32386106 [(0, none), (1, none), (2, none), (3, none), (4, none), (5, none), (6, none), (8, none), (7, some [1]), (9, none), (10, none), (11, none), (12, none), (13, none), (14, none), (15, none), (16, none), (17, none), (18, none), (19, none), (20, none), (21, none), (22, none), (23, none), (24, none), (25, none), (26, none), (27, some [17, 18, 19, 21, 22, 23, 24]), (28, some [17, 18, 19, 21, 22, 23, 24]), (29, none)] mixed ?hB ?_; (case hB => decide +kernel); simp only [Flow.textOf, Flow.q1, Flow.q2, Flow.q3, Flow.q4, Flow.q5, Flow.q6, Flow.q7, Flow.q8, Flow.q9, Flow.wpFl, Flow.SameAll]) | (refine Flow.region_still mixed ?hB ?_; (case hB => decide +kernel)))
    refine bodyPost_ret (HRES.out _ _ rfl HSD.out.size _ _ _ _ rfl (HBa.out.fr HFb.out (fun e => by have e' : w.heap.size = w.heap.size + 1 := e; omega)) rfl HBb.out) rfl ?_
    have hfe : Fr (fun _ => False) w wb := (HF3.out.trans (S2 := fun z => w.heap.size ≤ z) ((HFa.out.mono (S2 := fun z => w.heap.size ≤ z) (fun z _ e => by omega)).trans HFb.out (fun z _ e => by omega)) (fun z hz e => by omega))
    have hrw : OwnAt wb 124 2 (fun z => w.heap.size ≤ z) ta ((s.x.th (k : Int)).getD noTh).wait.length tc (ent ((s.x.th (k : Int)).getD noTh).wait) := by rw [← HT.out]; exact ((HO3.out.fr HFa.out (fun z hz e => by omega)).fr HFb.out (fun z hz e => by omega)).mono (fun z _ h => by omega)
    exact ⟨ta, tc, by rw [← HT.out, ← HVT.out]; rfl, hrw, hfe⟩
  | true =>
    by_cases hkk : ik = kind
    · have hq : (ik == kind) = true := by simpa using hkk
      clear hkk
      by_cases hww : os < W
      · go_wp2_with (first | ((with_reducible apply wpList_storeA (b := w.heap.size) (C := #[.int .i64 0, .int .i64 0, .int .i64 0, .int .i64 0, .int .i64 0, .int .i64 0, .int .i64 0]) (cells := #[.int .i64 ik, .int .i64 iop, .int .i64 idd, .int .i64 ia, .int .i64 ib, .int .i64 inn, .int .i64 ito]) (T := 57)); (case zsx => rfl); (case zsy => rfl); (case zsn => rfl); (case zsi => exact szINS); (case zs1 => rfl); (case zsb => exact HB73.out); intro wa hba hfa hsa; have HBa := hid hba; have HFa := hid hfa; have h0_ := hfa.cell h0 (fun e => by have e' : SB = w.heap.size := e; omega); have h2_ := hfa.cell h2 (fun e => by have e' : SB = w.heap.size := e; omega); have c1_ := hfa.cell c1 (fun e => by have e' : OB = w.heap.size := e; omega); have hix_ := HIX.out.fr hfa (fun e => by have e' : w2.heap.size = w.heap.size := e; omega); have HIXa := hid hix_; have c0_i_ := hix_.cell 0; have c1_i_ := hix_.cell 1; have c2_i_ := hix_.cell 2; have c3_i_ := hix_.cell 3; have c4_i_ := hix_.cell 4; have c5_i_ := hix_.cell 5; have c6_i_ := hix_.cell 6; clear h0 h2 c1 c0_i c1_i c2_i c3_i c4_i c5_i c6_i; have h0 := h0_; have h2 := h2_; have c1 := c1_; have c0_i := c0_i_; have c1_i := c1_i_; have c2_i := c2_i_; have c3_i := c3_i_; have c4_i := c4_i_; have c5_i := c5_i_; have c6_i := c6_i_; clear h0_ h2_ c1_ c0_i_ c1_i_ c2_i_ c3_i_ c4_i_ c5_i_ c6_i_; clear hba hfa hix_) | ((with_reducible apply wpList_storeA (b := w.heap.size + 1) (C := (standV noTh none 0).toArray) (cells := vT) (T := 45)); (case zsx => rfl); (case zsy => rfl); (case zsn => exact HSD.out.size); (case zsi => rw [HSD.out.size]; exact szTHR); (case zs1 => exact HSD.out.one); (case zsb => exact HB193.out.fr HFa.out (fun e => by have e' : w.heap.size + 1 = w.heap.size := e; omega)); intro wb hbb hfb hsb; have HBb := hid hbb; have HFb := hid hfb; have h0_ := hfb.cell h0 (fun e => by have e' : SB = w.heap.size + 1 := e; omega); have h2_ := hfb.cell h2 (fun e => by have e' : SB = w.heap.size + 1 := e; omega); have c1_ := hfb.cell c1 (fun e => by have e' : OB = w.heap.size + 1 := e; omega); have hix_ := HIXa.out.fr hfb (fun e => by have e' : w2.heap.size = w.heap.size + 1 := e; omega); have c0_i_ := hix_.cell 0; have c1_i_ := hix_.cell 1; have c2_i_ := hix_.cell 2; have c3_i_ := hix_.cell 3; have c4_i_ := hix_.cell 4; have c5_i_ := hix_.cell 5; have c6_i_ := hix_.cell 6; clear h0 h2 c1 c0_i c1_i c2_i c3_i c4_i c5_i c6_i; have h0 := h0_; have h2 := h2_; have c1 := c1_; have c0_i := c0_i_; have c1_i := c1_i_; have c2_i := c2_i_; have c3_i := c3_i_; have c4_i := c4_i_; have c5_i := c5_i_; have c6_i := c6_i_; clear h0_ h2_ c1_ c0_i_ c1_i_ c2_i_ c3_i_ c4_i_ c5_i_ c6_i_; clear hbb hfb hix_) | still_step | (with_reducible first | refine wpStill_nil ?_ | refine Flow.Both.mk ?_ ?_ | exact True.intro) | (with_reducible refine Flow.same_mk rfl rfl rfl ?_; go_simp; done) | (with_reducible exact Flow.same_un rfl rfl rfl) | (with_reducible refine Flow.region_flow (id := 3) [0, 0, 0, 4, 12, 28, 0, 124, 0, 508, 1020, 2044, 1020, 8188, 16380, 32764, 65532, 131068, 262140, 524284, 65532, 1114108, 3211260, 7405564, 16777212, 33554428, 65533, 67174399, 201392127, 536870911] 402653312 32386106 [(0, none), (1, none), (2, none), (3, none), (4, none), (5, none), (6, none), (8, none), (7, some [1]), (9, none), (10, none), (11, none), (12, none), (13, none), (14, none), (15, none), (16, none), (17, none), (18, none), (19, none), (20, none), (21, none), (22, none), (23, none), (24, none), (25, none), (26, none), (27, some [17, 18, 19, 21, 22, 23, 24]), (28, some [17, 18, 19, 21, 22, 23, 24]), (29, none)] mixed ?hB ?_; (case hB => decide +kernel); simp only [Flow.textOf, Flow.q1, Flow.q2, Flow.q3, Flow.q4, Flow.q5, Flow.q6, Flow.q7, Flow.q8, Flow.q9, Flow.wpFl, Flow.SameAll]) | (refine Flow.region_still mixed ?hB ?_; (case hB => decide +kernel)))
        refine bodyPost_ret (HRES.out _ _ rfl HSD.out.size _ _ _ _ rfl (HBa.out.fr HFb.out (fun e => by have e' : w.heap.size = w.heap.size + 1 := e; omega)) rfl HBb.out) rfl ?_
        have hfe : Fr (fun _ => False) w wb := (HF3.out.trans (S2 := fun z => w.heap.size ≤ z) ((HFa.out.mono (S2 := fun z => w.heap.size ≤ z) (fun z _ e => by omega)).trans HFb.out (fun z _ e => by omega)) (fun z hz e => by omega))
        have hrw : OwnAt wb 124 2 (fun z => w.heap.size ≤ z) ta ((s.x.th (k : Int)).getD noTh).wait.length tc (ent ((s.x.th (k : Int)).getD noTh).wait) := by rw [← HT.out]; exact ((HO3.out.fr HFa.out (fun z hz e => by omega)).fr HFb.out (fun z hz e => by omega)).mono (fun z _ h => by omega)
        exact ⟨ta, tc, by rw [← HT.out, ← HVT.out, decide_eq_true hww, hq]; rfl, hrw, hfe⟩
      · go_wp2_with (first | ((with_reducible apply wpList_storeA (b := w.heap.size) (C := #[.int .i64 0, .int .i64 0, .int .i64 0, .int .i64 0, .int .i64 0, .int .i64 0, .int .i64 0]) (cells := #[.int .i64 ik, .int .i64 iop, .int .i64 idd, .int .i64 ia, .int .i64 ib, .int .i64 inn, .int .i64 ito]) (T := 57)); (case zsx => rfl); (case zsy => rfl); (case zsn => rfl); (case zsi => exact szINS); (case zs1 => rfl); (case zsb => exact HB73.out); intro wa hba hfa hsa; have HBa := hid hba; have HFa := hid hfa; have h0_ := hfa.cell h0 (fun e => by have e' : SB = w.heap.size := e; omega); have h2_ := hfa.cell h2 (fun e => by have e' : SB = w.heap.size := e; omega); have c1_ := hfa.cell c1 (fun e => by have e' : OB = w.heap.size := e; omega); have hix_ := HIX.out.fr hfa (fun e => by have e' : w2.heap.size = w.heap.size := e; omega); have HIXa := hid hix_; have c0_i_ := hix_.cell 0; have c1_i_ := hix_.cell 1; have c2_i_ := hix_.cell 2; have c3_i_ := hix_.cell 3; have c4_i_ := hix_.cell 4; have c5_i_ := hix_.cell 5; have c6_i_ := hix_.cell 6; clear h0 h2 c1 c0_i c1_i c2_i c3_i c4_i c5_i c6_i; have h0 := h0_; have h2 := h2_; have c1 := c1_; have c0_i := c0_i_; have c1_i := c1_i_; have c2_i := c2_i_; have c3_i := c3_i_; have c4_i := c4_i_; have c5_i := c5_i_; have c6_i := c6_i_; clear h0_ h2_ c1_ c0_i_ c1_i_ c2_i_ c3_i_ c4_i_ c5_i_ c6_i_; clear hba hfa hix_) | ((with_reducible apply wpList_storeA (b := w.heap.size + 1) (C := (standV noTh none 0).toArray) (cells := vT) (T := 45)); (case zsx => rfl); (case zsy => rfl); (case zsn => exact HSD.out.size); (case zsi => rw [HSD.out.size]; exact szTHR); (case zs1 => exact HSD.out.one); (case zsb => exact HB193.out.fr HFa.out (fun e => by have e' : w.heap.size + 1 = w.heap.size := e; omega)); intro wb hbb hfb hsb; have HBb := hid hbb; have HFb := hid hfb; have h0_ := hfb.cell h0 (fun e => by have e' : SB = w.heap.size + 1 := e; omega); have h2_ := hfb.cell h2 (fun e => by have e' : SB = w.heap.size + 1 := e; omega); have c1_ := hfb.cell c1 (fun e => by have e' : OB = w.heap.size + 1 := e; omega); have hix_ := HIXa.out.fr hfb (fun e => by have e' : w2.heap.size = w.heap.size + 1 := e; omega); have c0_i_ := hix_.cell 0; have c1_i_ := hix_.cell 1; have c2_i_ := hix_.cell 2; have c3_i_ := hix_.cell 3; have c4_i_ := hix_.cell 4; have c5_i_ := hix_.cell 5; have c6_i_ := hix_.cell 6; clear h0 h2 c1 c0_i c1_i c2_i c3_i c4_i c5_i c6_i; have h0 := h0_; have h2 := h2_; have c1 := c1_; have c0_i := c0_i_; have c1_i := c1_i_; have c2_i := c2_i_; have c3_i := c3_i_; have c4_i := c4_i_; have c5_i := c5_i_; have c6_i := c6_i_; clear h0_ h2_ c1_ c0_i_ c1_i_ c2_i_ c3_i_ c4_i_ c5_i_ c6_i_; clear hbb hfb hix_) | still_step | (with_reducible first | refine wpStill_nil ?_ | refine Flow.Both.mk ?_ ?_ | exact True.intro) | (with_reducible refine Flow.same_mk rfl rfl rfl ?_; go_simp; done) | (with_reducible exact Flow.same_un rfl rfl rfl) | (with_reducible refine Flow.region_flow (id := 3) [0, 0, 0, 4, 12, 28, 0, 124, 0, 508, 1020, 2044, 1020, 8188, 16380, 32764, 65532, 131068, 262140, 524284, 65532, 1114108, 3211260, 7405564, 16777212, 33554428, 65533, 67174399, 201392127, 536870911] 402653312 32386106 [(0, none), (1, none), (2, none), (3, none), (4, none), (5, none), (6, none), (8, none), (7, some [1]), (9, none), (10, none), (11, none), (12, none), (13, none), (14, none), (15, none), (16, none), (17, none), (18, none), (19, none), (20, none), (21, none), (22, none), (23, none), (24, none), (25, none), (26, none), (27, some [17, 18, 19, 21, 22, 23, 24]), (28, some [17, 18, 19, 21, 22, 23, 24]), (29, none)] mixed ?hB ?_; (case hB => decide +kernel); simp only [Flow.textOf, Flow.q1, Flow.q2, Flow.q3, Flow.q4, Flow.q5, Flow.q6, Flow.q7, Flow.q8, Flow.q9, Flow.wpFl, Flow.SameAll]) | (refine Flow.region_still mixed ?hB ?_; (case hB => decide +kernel)))
        refine bodyPost_ret (HRES.out _ _ rfl HSD.out.size _ _ _ _ rfl (HBa.out.fr HFb.out (fun e => by have e' : w.heap.size = w.heap.size + 1 := e; omega)) rfl HBb.out) rfl ?_
        have hfe : Fr (fun _ => False) w wb := (HF3.out.trans (S2 := fun z => w.heap.size ≤ z) ((HFa.out.mono (S2 := fun z => w.heap.size ≤ z) (fun z _ e => by omega)).trans HFb.out (fun z _ e => by omega)) (fun z hz e => by omega))
        have hrw : OwnAt wb 124 2 (fun z => w.heap.size ≤ z) ta ((s.x.th (k : Int)).getD noTh).wait.length tc (ent ((s.x.th (k : Int)).getD noTh).wait) := by rw [← HT.out]; exact ((HO3.out.fr HFa.out (fun z hz e => by omega)).fr HFb.out (fun z hz e => by omega)).mono (fun z _ h => by omega)
        exact ⟨ta, tc, by rw [← HT.out, ← HVT.out, decide_eq_false (show ¬ os < W by omega), hq]; rfl, hrw, hfe⟩
    · have hq : (ik == kind) = false := by simpa using hkk
      clear hkk
      go_wp2_with (first | ((with_reducible apply wpList_storeA (b := w.heap.size) (C := #[.int .i64 0, .int .i64 0, .int .i64 0, .int .i64 0, .int .i64 0, .int .i64 0, .int .i64 0]) (cells := #[.int .i64 ik, .int .i64 iop, .int .i64 idd, .int .i64 ia, .int .i64 ib, .int .i64 inn, .int .i64 ito]) (T := 57)); (case zsx => rfl); (case zsy => rfl); (case zsn => rfl); (case zsi => exact szINS); (case zs1 => rfl); (case zsb => exact HB73.out); intro wa hba hfa hsa; have HBa := hid hba; have HFa := hid hfa; have h0_ := hfa.cell h0 (fun e => by have e' : SB = w.heap.size := e; omega); have h2_ := hfa.cell h2 (fun e => by have e' : SB = w.heap.size := e; omega); have c1_ := hfa.cell c1 (fun e => by have e' : OB = w.heap.size := e; omega); have hix_ := HIX.out.fr hfa (fun e => by have e' : w2.heap.size = w.heap.size := e; omega); have HIXa := hid hix_; have c0_i_ := hix_.cell 0; have c1_i_ := hix_.cell 1; have c2_i_ := hix_.cell 2; have c3_i_ := hix_.cell 3; have c4_i_ := hix_.cell 4; have c5_i_ := hix_.cell 5; have c6_i_ := hix_.cell 6; clear h0 h2 c1 c0_i c1_i c2_i c3_i c4_i c5_i c6_i; have h0 := h0_; have h2 := h2_; have c1 := c1_; have c0_i := c0_i_; have c1_i := c1_i_; have c2_i := c2_i_; have c3_i := c3_i_; have c4_i := c4_i_; have c5_i := c5_i_; have c6_i := c6_i_; clear h0_ h2_ c1_ c0_i_ c1_i_ c2_i_ c3_i_ c4_i_ c5_i_ c6_i_; clear hba hfa hix_) | ((with_reducible apply wpList_storeA (b := w.heap.size + 1) (C := (standV noTh none 0).toArray) (cells := vT) (T := 45)); (case zsx => rfl); (case zsy => rfl); (case zsn => exact HSD.out.size); (case zsi => rw [HSD.out.size]; exact szTHR); (case zs1 => exact HSD.out.one); (case zsb => exact HB193.out.fr HFa.out (fun e => by have e' : w.heap.size + 1 = w.heap.size := e; omega)); intro wb hbb hfb hsb; have HBb := hid hbb; have HFb := hid hfb; have h0_ := hfb.cell h0 (fun e => by have e' : SB = w.heap.size + 1 := e; omega); have h2_ := hfb.cell h2 (fun e => by have e' : SB = w.heap.size + 1 := e; omega); have c1_ := hfb.cell c1 (fun e => by have e' : OB = w.heap.size + 1 := e; omega); have hix_ := HIXa.out.fr hfb (fun e => by have e' : w2.heap.size = w.heap.size + 1 := e; omega); have c0_i_ := hix_.cell 0; have c1_i_ := hix_.cell 1; have c2_i_ := hix_.cell 2; have c3_i_ := hix_.cell 3; have c4_i_ := hix_.cell 4; have c5_i_ := hix_.cell 5; have c6_i_ := hix_.cell 6; clear h0 h2 c1 c0_i c1_i c2_i c3_i c4_i c5_i c6_i; have h0 := h0_; have h2 := h2_; have c1 := c1_; have c0_i := c0_i_; have c1_i := c1_i_; have c2_i := c2_i_; have c3_i := c3_i_; have c4_i := c4_i_; have c5_i := c5_i_; have c6_i := c6_i_; clear h0_ h2_ c1_ c0_i_ c1_i_ c2_i_ c3_i_ c4_i_ c5_i_ c6_i_; clear hbb hfb hix_) | still_step | (with_reducible first | refine wpStill_nil ?_ | refine Flow.Both.mk ?_ ?_ | exact True.intro) | (with_reducible refine Flow.same_mk rfl rfl rfl ?_; go_simp; done) | (with_reducible exact Flow.same_un rfl rfl rfl) | (with_reducible refine Flow.region_flow (id := 3) [0, 0, 0, 4, 12, 28, 0, 124, 0, 508, 1020, 2044, 1020, 8188, 16380, 32764, 65532, 131068, 262140, 524284, 65532, 1114108, 3211260, 7405564, 16777212, 33554428, 65533, 67174399, 201392127, 536870911] 402653312 32386106 [(0, none), (1, none), (2, none), (3, none), (4, none), (5, none), (6, none), (8, none), (7, some [1]), (9, none), (10, none), (11, none), (12, none), (13, none), (14, none), (15, none), (16, none), (17, none), (18, none), (19, none), (20, none), (21, none), (22, none), (23, none), (24, none), (25, none), (26, none), (27, some [17, 18, 19, 21, 22, 23, 24]), (28, some [17, 18, 19, 21, 22, 23, 24]), (29, none)] mixed ?hB ?_; (case hB => decide +kernel); simp only [Flow.textOf, Flow.q1, Flow.q2, Flow.q3, Flow.q4, Flow.q5, Flow.q6, Flow.q7, Flow.q8, Flow.q9, Flow.wpFl, Flow.SameAll]) | (refine Flow.region_still mixed ?hB ?_; (case hB => decide +kernel)))
      refine bodyPost_ret (HRES.out _ _ rfl HSD.out.size _ _ _ _ rfl (HBa.out.fr HFb.out (fun e => by have e' : w.heap.size = w.heap.size + 1 := e; omega)) rfl HBb.out) rfl ?_
      have hfe : Fr (fun _ => False) w wb := (HF3.out.trans (S2 := fun z => w.heap.size ≤ z) ((HFa.out.mono (S2 := fun z => w.heap.size ≤ z) (fun z _ e => by omega)).trans HFb.out (fun z _ e => by omega)) (fun z hz e => by omega))
      have hrw : OwnAt wb 124 2 (fun z => w.heap.size ≤ z) ta ((s.x.th (k : Int)).getD noTh).wait.length tc (ent ((s.x.th (k : Int)).getD noTh).wait) := by rw [← HT.out]; exact ((HO3.out.fr HFa.out (fun z hz e => by omega)).fr HFb.out (fun z hz e => by omega)).mono (fun z _ h => by omega)
      exact ⟨ta, tc, by rw [← HT.out, ← HVT.out, hq]; rfl, hrw, hfe⟩
end Go.Proofs.Ytbfeopakmjcapaa.Sp
