/-
  The last guess is taken back.
-/
import Derived.Test.YtbfeopakmjcapaaSpV
set_option linter.unusedVariables false
set_option linter.unusedSimpArgs false
set_option maxHeartbeats 4000000
set_option maxRecDepth 8000
namespace Go.Proofs.Ytbfeopakmjcapaa.Sp
open Go.RowKit Go.Proofs.Ytbfeopakmjcapaa.Seq Go.Proofs.Ytbfeopakmjcapaa.Tso
attribute [local irreducible] wpStill wpList Calls CallsIn

theorem wpStill_loadV {P : Program} {ops : Array Oper} {rest : List Oper} {dst : Option Tmp} {ty tt : TypeId} {x : Operand} {ps : String} {af : Array Edge} {a : Act} {w : World} {Q : Act → Prop} {b o : Nat} {d : TypeDesc} (cs : List Value) (C : Array Value)
    (zlx : a.eval x = .pointer (some ⟨b, o, none⟩)) (zlu : P.underlying ty = some d) (zld : d.isRow = true) (zli : (P.info? ty).map (·.size) = some cs.length) (zlc : ∀ j v, cs[j]? = some v → w.cell? ⟨b, o + j, none⟩ = some v) (zle : C = cs.toArray)
    (zlK : wpStill P ops w Q rest (a.put dst (.agg C))) : wpStill P ops w Q (⟨dst, .load ty x, tt, ps, af, none⟩ :: rest) a := by
  subst zle
  exact wpStill_gives rfl (run_loadV cs zlc rfl zlx zlu zld zli) zlK
theorem same_loadV {P : Program} {ops : Array Oper} {d : Tmp} {ty tt : TypeId} {x : Operand} {ps : String} {af : Array Edge} {g : Option (Nat × Bool)} {a : Act} {w : World} {b o : Nat} {ds : TypeDesc} (cs : List Value) (C : Array Value) (zlw : Region.wanted ⟨some d, .load ty x, tt, ps, af, g⟩ (yielded ops a.tmps) = true) (zlv : a.tmps.getD d undef = .agg C)
    (zlx : a.eval x = .pointer (some ⟨b, o, none⟩)) (zlu : P.underlying ty = some ds) (zld : ds.isRow = true) (zli : (P.info? ty).map (·.size) = some cs.length) (zlc : ∀ j v, cs[j]? = some v → w.cell? ⟨b, o + j, none⟩ = some v) (zle : C = cs.toArray) : Flow.SameO P ops ⟨some d, .load ty x, tt, ps, af, g⟩ a w := by
  subst zle
  exact Flow.same_mk zlw rfl zlv (run_loadV cs zlc rfl zlx zlu zld zli)
theorem gsC_take {l : List (Gs × Value)} (h : ∀ p ∈ l, p.1.regs.length = 16) (j : Nat) : (gsC l).take (j * 21) = gsC (l.take j) := by
  induction l generalizing j with
  | nil => simp [gsC]
  | cons q l ih =>
    have hq := gC_length (h q (by simp))
    cases j with
    | zero => simp [gsC]
    | succ j =>
      have := ih (fun q hq => h q (by simp [hq])) j
      simp only [gsC, List.flatMap_cons, List.take_succ_cons] at this ⊢
      rw [List.take_append, List.take_of_length_le (by omega), hq, show (j + 1) * 21 - 21 = j * 21 by omega, this]
theorem zG : (Try.prog.info? 91).map (fun i => (i.zero, i.size)) = some (some (.agg (gC (⟨0, List.replicate 16 0, false, 0, 0⟩, .slice none 0 0)).toArray), 21) := by kernel_rfl

theorem back_is (SB : Nat) (R : Nat → Prop) (s : SM) (n : Int) (o : Op) (w : World) (h : SR w R SB s) (hg : s.guesses n = some o) (hok : OkS s) :
    Calls Try.prog 37 #[.pointer (some ⟨SB, 0, none⟩), .int .i64 n] w fun e w' => e = .returned (.tuple #[leakV (s.back n o).2.1, .bool (s.back n o).2.2]) ∧ ∃ R', SR w' R' SB (s.back n o).1 ∧ Mv R R' w w' := by
  obtain ⟨res, hrs⟩ : ∃ r, r = s.back n o := ⟨_, rfl⟩
  rw [← hrs]
  have HRS := hid hrs
  clear hrs
  obtain ⟨B, OB, oc, ids, D, A, C, V, G, Rm, h⟩ := h
  have HH := hid h
  obtain ⟨k, rfl, hgo⟩ := guesses_get hg
  have hk := (List.getElem?_eq_some_iff.1 hgo).1
  have hv := h.vals k _ hgo
  have HV := hid hv
  have HGO := hid hgo
  have h0 : w.cell? ⟨SB, 0, none⟩ = some (.pointer (some ⟨B, 0, none⟩)) := h.head.cell 0
  have h1 : w.cell? ⟨SB, 1, none⟩ = some (.slice (some ⟨OB, 0, none⟩) s.op.length oc) := h.head.cell 1
  have h2 : w.cell? ⟨SB, 2, none⟩ = some (.int .i64 s.window) := h.head.cell 2
  have c0 : w.cell? ⟨OB, k * 2, none⟩ = some (.slice (A k) o.1.length (C k)) := by rw [h.opens.cell]; exact (h.cells k _ hgo).1
  have c1 : w.cell? ⟨OB, k * 2 + 1, none⟩ = some (.int .i64 o.2) := by rw [h.opens.cell]; exact (h.cells k _ hgo).2
  have f1 := h.opens.free (k * 2 + 1)
  have lsb := h.head.lt
  have lob := h.opens.lt
  have hgs := fun (w1 : World) (hf : Fr (fun _ => False) w w1) => guesses_is SB B OB oc s.op.length (k : Int) s.window w1 (hf.cell h0 (fun h => h)) (hf.cell h1 (fun h => h))
  have HG := hid hgs
  obtain ⟨d4, hd4, hd5⟩ := unLK
  have HL := hid (Blk.new w #[.int .i64 0, .int .i64 0, .int .i64 0, .int .i64 0] 37)
  obtain ⟨SL, hSL⟩ : ∃ SL, SL = s.op.length := ⟨_, rfl⟩
  have HSL := hid hSL
  clear h hgo hg hv hgs h1 hSL
  obtain ⟨ol, os⟩ := o
  dsimp only at c0 c1
  have hres := fun (C : Array Value) (hC : C.size = 4) (tmps : Array Value) (w : World) (b : Nat) (ha : tmps.getD 4 undef = .pointer (some ⟨b, 0, none⟩)) (hb : Blk w b C 37) => results_ct (P := Try.prog) Try.results37 ha hb hd4 hd5 (by rw [hC]; exact szLK)
  have HRES := hid hres
  clear hres
  go_enter Try.func37, Try.ntmps37
  go_wp2_with (first | still_step | (with_reducible first | refine wpStill_nil ?_ | refine Flow.Both.mk ?_ ?_ | exact True.intro) | (with_reducible refine Flow.same_mk rfl rfl rfl ?_; go_simp; done) | (with_reducible exact Flow.same_un rfl rfl rfl) | (with_reducible refine Flow.region_flow (id := 4) [0, 1, 3, 7, 0, 16, 48, 112, 240, 496, 1023, 2047, 0, 8191] 12288 4078 [(0, none), (1, none), (2, none), (3, none), (4, none), (5, none), (6, none), (7, none), (8, none), (9, none), (10, none), (11, none), (12, some [1, 2, 3, 5, 6, 7, 8, 9, 10, 11]), (13, some [])] mixed ?hB ?_; (case hB => decide +kernel); simp only [Flow.textOf, Flow.q1, Flow.q2, Flow.q3, Flow.q4, Flow.q5, Flow.q6, Flow.q7, Flow.q8, Flow.q9, Flow.wpFl, Flow.SameAll]) | (with_reducible refine Flow.region_flow (id := 5) [0, 1, 3, 7, 0, 0, 0, 0, 224, 511] 768 142 [(0, none), (1, none), (2, none), (3, none), (4, none), (5, none), (6, none), (7, none), (8, some [1, 2, 3]), (9, some [])] mixed ?hB ?_; (case hB => decide +kernel); simp only [Flow.textOf, Flow.q1, Flow.q2, Flow.q3, Flow.q4, Flow.q5, Flow.q6, Flow.q7, Flow.q8, Flow.q9, Flow.wpFl, Flow.SameAll]) | (with_reducible refine Flow.region_flow (id := 6) [0, 0, 0, 4, 12, 28, 0, 64, 192, 448, 960, 1984, 4092, 0, 8192, 8189, 40957, 106493, 262143, 524287, 1048575] 1179648 917432 [(0, none), (1, none), (2, none), (3, none), (4, none), (5, none), (6, none), (7, none), (8, none), (9, none), (10, none), (11, none), (12, none), (13, none), (14, none), (15, none), (16, none), (17, some [13, 14]), (18, none), (19, none), (20, some [])] mixed ?hB ?_; (case hB => decide +kernel); simp only [Flow.textOf, Flow.q1, Flow.q2, Flow.q3, Flow.q4, Flow.q5, Flow.q6, Flow.q7, Flow.q8, Flow.q9, Flow.wpFl, Flow.SameAll]) | (refine Flow.region_still mixed ?hB ?_; (case hB => decide +kernel)))
  go_at_call 38
  refine (HG.out _ (by (with_reducible repeat' (first | exact Fr.refl _ _ | apply Fr.alloc | apply Fr.drew | apply Fr.drewN | refine Fr.setCell ?_ ?_ _)))).mono ?_
  rintro e w1 ⟨rfl, hf⟩
  rw [if_pos (by omega), show ((k : Nat) : Int).toNat = k by simp]
  have hf1 := (show Fr (fun _ => False) w _ by (with_reducible repeat' (first | exact Fr.refl _ _ | apply Fr.alloc | apply Fr.drew | apply Fr.drewN | refine Fr.setCell ?_ ?_ _))).trans hf (fun _ _ h => h)
  have HF1 := hid hf1
  have HL1 := hid (HL.out.fr hf (fun h => h))
  have h0_ := Fr.cell hf1 h0 (fun h => h)
  clear h0
  have h0 := h0_
  clear h0_
  have c0_ := Fr.cell hf1 c0 (fun h => h)
  clear c0
  have c0 := c0_
  clear c0_
  have c1_ := Fr.cell hf1 c1 (fun h => h)
  clear c1
  have c1 := c1_
  clear c1_
  have lob1 : OB < w1.heap.size := World.block_lt_of_cell? _ _ c0
  have lsb1 : SB < w1.heap.size := World.block_lt_of_cell? _ _ h0
  have hrs := HRS.out
  unfold SM.back at hrs
  dsimp only at hrs
  obtain ⟨L, hL⟩ : ∃ L, L = ol.length := ⟨_, rfl⟩
  have HLL := hid hL
  rw [← hL] at hrs c0
  clear hf hf1 HL HG h2
  by_cases hl : L = 0
  · rw [if_pos hl] at hrs
    subst hrs
    have hl2 : ((L : Int) == 0) = true := by simpa using hl
    clear hl hL
    go_wp2_with (first | ((with_reducible apply wpList_storeA (b := w.heap.size) (C := #[.int .i64 0, .int .i64 0, .int .i64 0, .int .i64 0]) (T := 37)); (case zsx => rfl); (case zsy => rfl); (case zsn => rfl); (case zsi => exact szLK); (case zs1 => rfl); (case zsb => ((repeat' (first | with_reducible exact HL1.out | with_reducible exact HL2.out | with_reducible exact HL3.out | with_reducible exact HL4.out | with_reducible apply Blk.drew | with_reducible apply Blk.alloc | (with_reducible refine Blk.set_ne ?_ ?_ _))); all_goals (first | omega | (simp; omega) | (simp; done)))); intro w9 hb9 hf9 hs9; have HB9 := hid hb9; have HF9 := hid hf9; have HSZ9 := hid hs9; clear hb9 hf9 hs9) | still_step | (with_reducible first | refine wpStill_nil ?_ | refine Flow.Both.mk ?_ ?_ | exact True.intro) | (with_reducible refine Flow.same_mk rfl rfl rfl ?_; go_simp; done) | (with_reducible exact Flow.same_un rfl rfl rfl) | (with_reducible refine Flow.region_flow (id := 4) [0, 1, 3, 7, 0, 16, 48, 112, 240, 496, 1023, 2047, 0, 8191] 12288 4078 [(0, none), (1, none), (2, none), (3, none), (4, none), (5, none), (6, none), (7, none), (8, none), (9, none), (10, none), (11, none), (12, some [1, 2, 3, 5, 6, 7, 8, 9, 10, 11]), (13, some [])] mixed ?hB ?_; (case hB => decide +kernel); simp only [Flow.textOf, Flow.q1, Flow.q2, Flow.q3, Flow.q4, Flow.q5, Flow.q6, Flow.q7, Flow.q8, Flow.q9, Flow.wpFl, Flow.SameAll]) | (with_reducible refine Flow.region_flow (id := 5) [0, 1, 3, 7, 0, 0, 0, 0, 224, 511] 768 142 [(0, none), (1, none), (2, none), (3, none), (4, none), (5, none), (6, none), (7, none), (8, some [1, 2, 3]), (9, some [])] mixed ?hB ?_; (case hB => decide +kernel); simp only [Flow.textOf, Flow.q1, Flow.q2, Flow.q3, Flow.q4, Flow.q5, Flow.q6, Flow.q7, Flow.q8, Flow.q9, Flow.wpFl, Flow.SameAll]) | (with_reducible refine Flow.region_flow (id := 6) [0, 0, 0, 4, 12, 28, 0, 64, 192, 448, 960, 1984, 4092, 0, 8192, 8189, 40957, 106493, 262143, 524287, 1048575] 1179648 917432 [(0, none), (1, none), (2, none), (3, none), (4, none), (5, none), (6, none), (7, none), (8, none), (9, none), (10, none), (11, none), (12, none), (13, none), (14, none), (15, none), (16, none), (17, some [13, 14]), (18, none), (19, none), (20, some [])] mixed ?hB ?_; (case hB => decide +kernel); simp only [Flow.textOf, Flow.q1, Flow.q2, Flow.q3, Flow.q4, Flow.q5, Flow.q6, Flow.q7, Flow.q8, Flow.q9, Flow.wpFl, Flow.SameAll]) | (refine Flow.region_still mixed ?hB ?_; (case hB => decide +kernel)))
    refine bodyPost_ret (HRES.out _ rfl _ _ _ rfl HB9.out) rfl ?_
    have hF9 : Fr (fun _ => False) w w9 := fr_weaken (by (repeat' (first | with_reducible exact HF1.out | with_reducible apply Fr.alloc | with_reducible apply Fr.drew | (with_reducible refine Fr.setCell ?_ ?_ _)))) HF9.out (Nat.le_refl _)
    exact ⟨rfl, R, SR.fr ⟨B, OB, oc, ids, D, A, C, V, G, Rm, HH.out⟩ hF9 (fun _ _ h => h), Mv.of_fr hF9⟩
  · rw [if_neg hl] at hrs
    have hl2 : ((L : Int) == 0) = false := by simpa using (show ¬ ((L : Int) = 0) by omega)
    obtain ⟨M1, hM1⟩ : ∃ M1, L = M1 + 1 := ⟨L - 1, by omega⟩
    obtain ⟨t, ht, hop, ht16, hwt⟩ := hok.thread HGO.out
    obtain ⟨hv1, hv2, hv3⟩ := HV.out
    (try dsimp only at hv1 hv3)
    have hvl : (V k).length = M1 + 1 := by have := congrArg List.length hv1; rw [List.length_map] at this; omega
    have hp0 : (V k)[M1]? = some (V k)[M1] := by simp [hvl]
    have hog : ol[M1]? = some (V k)[M1].1 := by rw [← hv1]; simp [hvl]
    have hlast : ol.getLastD default = (V k)[M1].1 := by
      rw [List.getLastD_eq_getLast?, List.getLast?_eq_getElem?, ← hL, hM1]
      simp only [Nat.add_sub_cancel]
      rw [hog]; rfl
    rw [hlast] at hrs
    have hg16 := (hv2 _ (List.mem_of_getElem? hp0)).2
    have hg1 := (hv2 _ (List.mem_of_getElem? hp0)).1
    have hkp := hop.kept M1 _ hog
    generalize hpp : (V k)[M1] = p0 at *
    obtain ⟨g, gv⟩ := p0
    dsimp only at hg16 hg1 hkp hrs hog hlast
    obtain ⟨kp, hkpe⟩ : ∃ kp : Nat, g.kept = kp := ⟨g.kept.toNat, by omega⟩
    have hT : (s.x.th (k : Int)).getD noTh = t := by rw [th_nat ht]; rfl
    have hkle : kp ≤ ((s.x.th (k : Int)).getD noTh).wait.length := by rw [hT]; omega
    have hck : M1 ≤ C k := by have := hv3.1; omega
    have hvr : ∀ p ∈ V k, p.1.regs.length = 16 := fun p hp => (hv2 p hp).2
    have hrow := hv3.fr HF1.out (fun _ _ h => h)
    obtain ⟨rr, off, hA, hGr, hcell⟩ := hrow.vw.cell (fun e => by have := gsC_get hvr hp0 (gC_kept hg16); rw [e] at this; simp at this)
    have hcl : ∀ j u, (gC (g, gv))[j]? = some u → w1.cell? ⟨rr, off + M1 * 21 + j, none⟩ = some u := fun j u hj => by rw [Nat.add_assoc]; exact hcell _ u (gsC_get hvr hp0 hj)
    obtain ⟨vG, hvG⟩ : ∃ vG, vG = (gC (g, gv)).toArray := ⟨_, rfl⟩
    have HVG := hid hvG
    have HV1 := hid (show vG.toList.all (·.oneCell') = true from by rw [hvG, List.all_eq_true]; intro u hu; exact gsC_one (l := [(g, gv)]) (fun p hp => by rw [List.mem_singleton] at hp; subst hp; exact hg1) u (by simpa [gsC] using hu))
    have HCELL := hid hcl
    have HG16 := hid hg16
    have HKP := hid hkpe
    have HKLE := hid hkle
    have HHA := hid hA
    have HGR := hid hGr
    have lrr : rr < w1.heap.size := World.block_lt_of_cell? _ _ (hcl 0 _ rfl)
    have hM2 : M1 + 1 ≤ 64 := by have := hop.now; have := hok.win; (try dsimp only at *); omega
    rw [hA, hM1] at c0
    subst hM1
    have hwr : IntKind.i64.wrap ((M1 : Nat) : Int) = ((M1 : Nat) : Int) := by rw [IntWalk.i64_left, IntWalk.wrap64_in _ (by omega)]
    have hlm : ((M1 : Nat) : Int) < ((M1 : Nat) : Int) + 1 := by omega
    have HHR := hid hrs
    clear hpp hT hkpe hkle hv1 hv2 hv3 hvl hp0 hog hlast hg16 hg1 hkp hvr hrow hcell hcl hvG hop ht ht16 hwt hGr hA hL hrs HV hl
    go_wp2_with (first | ((with_reducible apply wpStill_loadA (b := w1.heap.size) (o := 0) (C := vG) (T := 91) vG.toList); (case zlw => rfl); (case zlx => rfl); (case zlu => exact unG.choose_spec.1); (case zld => exact unG.choose_spec.2); (case zli => rw [Array.length_toList, HVG.out, List.size_toArray, gC_length HG16.out]; exact szG); (case zlb => exact HVX.out); (case zlc => exact fun j v hj => by simpa using hj); simp only [Array.toArray_toList]; refine wpStill_nil ?_; go_simp) | ((with_reducible apply same_loadV (b := rr) (o := off + M1 * 21) (gC (g, gv)) vG); (case zlw => rfl); (case zlv => rfl); (case zlx => rfl); (case zlu => exact unG.choose_spec.1); (case zld => exact unG.choose_spec.2); (case zli => rw [gC_length HG16.out]; exact szG); (case zlc => exact HCELLA.out); (case zle => exact HVG.out)) | ((with_reducible apply wpStill_loadV (b := rr) (o := off + M1 * 21) (gC (g, gv)) vG); (case zlx => rfl); (case zlu => exact unG.choose_spec.1); (case zld => exact unG.choose_spec.2); (case zli => rw [gC_length HG16.out]; exact szG); (case zlc => exact HCELL.out); (case zle => exact HVG.out); refine wpStill_nil ?_; go_simp) | ((with_reducible apply wpList_allocA (ty := 91) (gC (⟨0, List.replicate 16 0, false, 0, 0⟩, .slice none 0 0)).toArray); (case zai => exact zG); (case zac => rfl); intro wA8 hbA hfA hsA; have HBA8 := hid hbA; have hfB : Fr (fun _ => False) w1 wA8 := ((show Fr (fun _ => False) w1 _ by (with_reducible repeat' (first | exact Fr.refl _ _ | apply Fr.alloc | apply Fr.drew | apply Fr.drewN | refine Fr.setCell ?_ ?_ _))).trans hfA (fun _ _ h => h)); have h0_ := hfB.cell h0 (fun h => h); have c0_ := hfB.cell c0 (fun h => h); have c1_ := hfB.cell c1 (fun h => h); have HCELLA := hid (show ∀ j u, (gC (g, gv))[j]? = some u → wA8.cell? ⟨rr, off + M1 * 21 + j, none⟩ = some u from fun j u hj => hfB.cell (HCELL.out j u hj) (fun h => h)); have HL1a := hid (HL1.out.fr hfB (fun h => h)); have lobA : OB < wA8.heap.size := World.block_lt_of_cell? _ _ c0_; have lsbA : SB < wA8.heap.size := World.block_lt_of_cell? _ _ h0_; (try simp only [World.size_drew]); clear h0 c0 c1; have h0 := h0_; have c0 := c0_; have c1 := c1_; have HFA8 := hid hfB; clear h0_ c0_ c1_ hfB; clear hbA hfA hsA) | ((with_reducible apply wpList_storeA (b := w1.heap.size) (C := (gC (⟨0, List.replicate 16 0, false, 0, 0⟩, .slice none 0 0)).toArray) (cells := vG) (T := 91)); (case zsx => rfl); (case zsy => rfl); (case zsn => (rw [HVG.out, List.size_toArray, gC_length HG16.out]; rfl)); (case zsi => rw [HVG.out, List.size_toArray, gC_length HG16.out]; exact szG); (case zs1 => exact HV1.out); (case zsb => exact HBA8.out); intro wT hbT hfT hsT; have HVX := hid hbT; have hfm := fr_made HFA8.out hfT (Nat.le_refl _); have HFT := hid hfm; have h0_ := hfT.cell h0 (fun e => by have e' : SB = w1.heap.size := e; omega); have c0_ := hfT.cell c0 (fun e => by have e' : OB = w1.heap.size := e; omega); have c1_ := hfT.cell c1 (fun e => by have e' : OB = w1.heap.size := e; omega); have HL2 := hid (HL1.out.fr hfm (fun h => h)); have lV := HVX.out.lt; clear hbT hfT hsT HBA8 HFA8 hfm h0 c0 c1 HL1; have h0 := h0_; have c0 := c0_; have c1 := c1_; clear h0_ c0_ c1_; have lobT : OB < wT.heap.size := World.block_lt_of_cell? _ _ c0; have lsbT : SB < wT.heap.size := World.block_lt_of_cell? _ _ h0) | still_step | (with_reducible first | refine wpStill_nil ?_ | refine Flow.Both.mk ?_ ?_ | exact True.intro) | (with_reducible refine Flow.same_mk rfl rfl rfl ?_; go_simp; done) | (with_reducible exact Flow.same_un rfl rfl rfl) | (with_reducible refine Flow.region_flow (id := 4) [0, 1, 3, 7, 0, 16, 48, 112, 240, 496, 1023, 2047, 0, 8191] 12288 4078 [(0, none), (1, none), (2, none), (3, none), (4, none), (5, none), (6, none), (7, none), (8, none), (9, none), (10, none), (11, none), (12, some [1, 2, 3, 5, 6, 7, 8, 9, 10, 11]), (13, some [])] mixed ?hB ?_; (case hB => decide +kernel); simp only [Flow.textOf, Flow.q1, Flow.q2, Flow.q3, Flow.q4, Flow.q5, Flow.q6, Flow.q7, Flow.q8, Flow.q9, Flow.wpFl, Flow.SameAll]) | (with_reducible refine Flow.region_flow (id := 5) [0, 1, 3, 7, 0, 0, 0, 0, 224, 511] 768 142 [(0, none), (1, none), (2, none), (3, none), (4, none), (5, none), (6, none), (7, none), (8, some [1, 2, 3]), (9, some [])] mixed ?hB ?_; (case hB => decide +kernel); simp only [Flow.textOf, Flow.q1, Flow.q2, Flow.q3, Flow.q4, Flow.q5, Flow.q6, Flow.q7, Flow.q8, Flow.q9, Flow.wpFl, Flow.SameAll]) | (with_reducible refine Flow.region_flow (id := 6) [0, 0, 0, 4, 12, 28, 0, 64, 192, 448, 960, 1984, 4092, 0, 8192, 8189, 40957, 106493, 262143, 524287, 1048575] 1179648 917432 [(0, none), (1, none), (2, none), (3, none), (4, none), (5, none), (6, none), (7, none), (8, none), (9, none), (10, none), (11, none), (12, none), (13, none), (14, none), (15, none), (16, none), (17, some [13, 14]), (18, none), (19, none), (20, some [])] mixed ?hB ?_; (case hB => decide +kernel); simp only [Flow.textOf, Flow.q1, Flow.q2, Flow.q3, Flow.q4, Flow.q5, Flow.q6, Flow.q7, Flow.q8, Flow.q9, Flow.wpFl, Flow.SameAll]) | (refine Flow.region_still mixed ?hB ?_; (case hB => decide +kernel)))
    obtain ⟨T, hT⟩ : ∃ T, T = (s.x.th (k : Int)).getD noTh := ⟨_, rfl⟩
    refine Calls.named fun wc hwc => ?_
    have hfc : Fr (fun _ => False) wT wc := by rw [hwc]; (with_reducible repeat' (first | exact Fr.refl _ _ | apply Fr.alloc | apply Fr.drew | apply Fr.drewN | refine Fr.setCell ?_ ?_ _))
    have HFC := hid ((HF1.out.trans HFT.out (fun _ _ h => h)).trans hfc (fun _ _ h => h))
    have hai := at_is (HH.out.fr HFC.out (fun _ _ h => h)) (k : Int) g gv kp HG16.out HKP.out HKLE.out
    rw [← HVG.out, ← hT] at hai
    refine hai.mono ?_
    rintro e w2 ⟨ta, tc, rfl, ho2, hf2⟩
    obtain ⟨SU, hSU⟩ : ∃ SU, SU = stoodAt T g := ⟨_, rfl⟩
    rw [← hSU]
    have hf12 := hfc.trans hf2 (fun _ _ h => h)
    have HF2 := hid (HFC.out.trans hf2 (fun _ _ h => h))
    have HVX2 := hid (HVX.out.fr hf12 (fun h => h))
    have HL3 := hid (HL2.out.fr hf12 (fun h => h))
    have h0_ := Fr.cell hf12 h0 (fun h => h)
    clear h0
    have h0 := h0_
    clear h0_
    have c0_ := Fr.cell hf12 c0 (fun h => h)
    clear c0
    have c0 := c0_
    clear c0_
    have c1_ := Fr.cell hf12 c1 (fun h => h)
    clear c1
    have c1 := c1_
    clear c1_
    have HO2 := hid ho2
    have HSU := hid hSU
    have HTT := hid hT
    have hwc1 : w1.heap.size < wc.heap.size := by have := hfc.size; omega
    have lob2 : OB < w2.heap.size := World.block_lt_of_cell? _ _ c0
    have lsb2 : SB < w2.heap.size := World.block_lt_of_cell? _ _ h0
    clear hai ho2 hf2 hfc hf12 hwc HVX HL2 HFT HFC HCELL hSU hT lobT lsbT lV
    have hgs20 : vG[20]? = some (.int .i64 g.steps) := by rw [HVG.out]; simpa using gC_steps (p := (g, gv)) HG16.out
    have HGS := hid hgs20
    clear hgs20
    go_wp2_with (first | still_step | (with_reducible first | refine wpStill_nil ?_ | refine Flow.Both.mk ?_ ?_ | exact True.intro) | (with_reducible refine Flow.same_mk rfl rfl rfl ?_; go_simp; done) | (with_reducible exact Flow.same_un rfl rfl rfl) | (with_reducible refine Flow.region_flow (id := 4) [0, 1, 3, 7, 0, 16, 48, 112, 240, 496, 1023, 2047, 0, 8191] 12288 4078 [(0, none), (1, none), (2, none), (3, none), (4, none), (5, none), (6, none), (7, none), (8, none), (9, none), (10, none), (11, none), (12, some [1, 2, 3, 5, 6, 7, 8, 9, 10, 11]), (13, some [])] mixed ?hB ?_; (case hB => decide +kernel); simp only [Flow.textOf, Flow.q1, Flow.q2, Flow.q3, Flow.q4, Flow.q5, Flow.q6, Flow.q7, Flow.q8, Flow.q9, Flow.wpFl, Flow.SameAll]) | (with_reducible refine Flow.region_flow (id := 5) [0, 1, 3, 7, 0, 0, 0, 0, 224, 511] 768 142 [(0, none), (1, none), (2, none), (3, none), (4, none), (5, none), (6, none), (7, none), (8, some [1, 2, 3]), (9, some [])] mixed ?hB ?_; (case hB => decide +kernel); simp only [Flow.textOf, Flow.q1, Flow.q2, Flow.q3, Flow.q4, Flow.q5, Flow.q6, Flow.q7, Flow.q8, Flow.q9, Flow.wpFl, Flow.SameAll]) | (with_reducible refine Flow.region_flow (id := 6) [0, 0, 0, 4, 12, 28, 0, 64, 192, 448, 960, 1984, 4092, 0, 8192, 8189, 40957, 106493, 262143, 524287, 1048575] 1179648 917432 [(0, none), (1, none), (2, none), (3, none), (4, none), (5, none), (6, none), (7, none), (8, none), (9, none), (10, none), (11, none), (12, none), (13, none), (14, none), (15, none), (16, none), (17, some [13, 14]), (18, none), (19, none), (20, some [])] mixed ?hB ?_; (case hB => decide +kernel); simp only [Flow.textOf, Flow.q1, Flow.q2, Flow.q3, Flow.q4, Flow.q5, Flow.q6, Flow.q7, Flow.q8, Flow.q9, Flow.wpFl, Flow.SameAll]) | (refine Flow.region_still mixed ?hB ?_; (case hB => decide +kernel)))
    refine Calls.named fun wd hwd => ?_
    have hfd : Fr (fun _ => False) w2 wd := by rw [hwd]; (with_reducible repeat' (first | exact Fr.refl _ _ | apply Fr.alloc | apply Fr.drew | apply Fr.drewN | refine Fr.setCell ?_ ?_ _))
    have hfwd := HF2.out.trans hfd (fun _ _ h => h)
    have hsl : SU.wait.length = kp := by
      rw [HSU.out]
      show (T.wait.take g.kept.toNat).length = kp
      rw [HKP.out, List.length_take, HTT.out]
      have := HKLE.out
      simp; omega
    have hse : SU.wait = ((s.x.th (k : Int)).getD noTh).wait.take kp := by rw [HSU.out]; show T.wait.take g.kept.toNat = _; rw [HKP.out, HTT.out]; simp
    have ho2 := HO2.out
    rw [HTT.out, ← hse, ← hsl] at ho2
    have hlw : w.heap.size ≤ w1.heap.size := HF1.out.size
    have hvc := (ho2.vw.fr hfd (fun _ _ h => h))
    have hpi := put_is B Rm _ ids s.x (k : Int) SU ta tc wd (HH.out.mr.fr hfwd (fun _ _ h => h)) (by rw [HSU.out]; exact HG16.out) hvc (fun z hz hr => by have := HH.out.lt z (HH.out.inM z hr); have hz' : wc.heap.size ≤ z := hz; omega) (by rw [hsl]; have := HKLE.out; have := th_ok (HH.out.mr) (k : Int); have := hok.room; omega)
    refine hpi.mono ?_
    rintro e w3 ⟨rfl, Rm3, hm3, hv3⟩
    have hv := (Mv.of_fr (R := Rm) hfwd).trans hv3
    have hn1 : ¬ Rm w1.heap.size := fun hz => by have := HH.out.lt _ (HH.out.inM _ hz); omega
    have HVX3 := hid ((HVX2.out.fr hfd (fun h => h)).fr hv3.2.2 hn1)
    have HL4 := hid ((HL3.out.fr hfd (fun h => h)).fr hv3.2.2 (fun hz => by have := HH.out.lt _ (HH.out.inM _ hz); omega))
    have HNW := hid (show ¬ Rm3 w.heap.size from fun hz => by
      rcases hv3.2.1 _ hz with h' | h'
      · have := HH.out.lt _ (HH.out.inM _ h'); omega
      · have := (HL3.out.fr hfd (fun h => h)).lt; omega)
    have hf23 := (hfd.mono (S2 := Rm) (fun _ _ h => h.elim)).trans hv3.2.2 (fun _ _ h => h)
    have c0 := hf23.cell c0 HH.out.notS.2
    have c1 := hf23.cell c1 HH.out.notS.2
    have hob := HH.out.opens.fr hv.2.2 HH.out.notS.2
    have HOB := hid hob
    have f0 := hob.free (k * 2)
    have f1 := hob.free (k * 2 + 1)
    have h20 := (HVX3.out.cell 20).trans HGS.out
    have lob3 : OB < w3.heap.size := World.block_lt_of_cell? _ _ c0
    have l4 := HL4.out.lt
    have HM3 := hid hm3
    have HV3 := hid hv
    clear hfd hfwd hsl hse ho2 hvc hpi hm3 hv3 hv hn1 hf23 hob hwd HF2 HVX2 HL3 HO2 HVX3 HF1 h0
    go_wp2_with (first | ((with_reducible apply wpList_storeA (b := w.heap.size) (C := #[.int .i64 0, .int .i64 0, .int .i64 0, .int .i64 0]) (T := 37)); (case zsx => rfl); (case zsy => rfl); (case zsn => rfl); (case zsi => exact szLK); (case zs1 => rfl); (case zsb => ((repeat' (first | with_reducible exact HL1.out | with_reducible exact HL2.out | with_reducible exact HL3.out | with_reducible exact HL4.out | with_reducible apply Blk.drew | with_reducible apply Blk.alloc | (with_reducible refine Blk.set_ne ?_ ?_ _))); all_goals (first | omega | (simp; omega) | (simp; done)))); intro w9 hb9 hf9 hs9; have HB9 := hid hb9; have HF9 := hid hf9; have HSZ9 := hid hs9; clear hb9 hf9 hs9) | still_step | (with_reducible first | refine wpStill_nil ?_ | refine Flow.Both.mk ?_ ?_ | exact True.intro) | (with_reducible refine Flow.same_mk rfl rfl rfl ?_; go_simp; done) | (with_reducible exact Flow.same_un rfl rfl rfl) | (with_reducible refine Flow.region_flow (id := 4) [0, 1, 3, 7, 0, 16, 48, 112, 240, 496, 1023, 2047, 0, 8191] 12288 4078 [(0, none), (1, none), (2, none), (3, none), (4, none), (5, none), (6, none), (7, none), (8, none), (9, none), (10, none), (11, none), (12, some [1, 2, 3, 5, 6, 7, 8, 9, 10, 11]), (13, some [])] mixed ?hB ?_; (case hB => decide +kernel); simp only [Flow.textOf, Flow.q1, Flow.q2, Flow.q3, Flow.q4, Flow.q5, Flow.q6, Flow.q7, Flow.q8, Flow.q9, Flow.wpFl, Flow.SameAll]) | (with_reducible refine Flow.region_flow (id := 5) [0, 1, 3, 7, 0, 0, 0, 0, 224, 511] 768 142 [(0, none), (1, none), (2, none), (3, none), (4, none), (5, none), (6, none), (7, none), (8, some [1, 2, 3]), (9, some [])] mixed ?hB ?_; (case hB => decide +kernel); simp only [Flow.textOf, Flow.q1, Flow.q2, Flow.q3, Flow.q4, Flow.q5, Flow.q6, Flow.q7, Flow.q8, Flow.q9, Flow.wpFl, Flow.SameAll]) | (with_reducible refine Flow.region_flow (id := 6) [0, 0, 0, 4, 12, 28, 0, 64, 192, 448, 960, 1984, 4092, 0, 8192, 8189, 40957, 106493, 262143, 524287, 1048575] 1179648 917432 [(0, none), (1, none), (2, none), (3, none), (4, none), (5, none), (6, none), (7, none), (8, none), (9, none), (10, none), (11, none), (12, none), (13, none), (14, none), (15, none), (16, none), (17, some [13, 14]), (18, none), (19, none), (20, some [])] mixed ?hB ?_; (case hB => decide +kernel); simp only [Flow.textOf, Flow.q1, Flow.q2, Flow.q3, Flow.q4, Flow.q5, Flow.q6, Flow.q7, Flow.q8, Flow.q9, Flow.wpFl, Flow.SameAll]) | (refine Flow.region_still mixed ?hB ?_; (case hB => decide +kernel)))
    refine bodyPost_ret (HRES.out _ rfl _ _ _ rfl HB9.out) rfl ?_
    have hnob : ¬ Rm3 OB := fun hz => by
      rcases HV3.out.2.1 _ hz with h' | h'
      · exact HH.out.notS.2 h'
      · omega
    have hnw := HNW.out
    have hf9 : Fr (fun z => z = w.heap.size ∨ z = OB) w3 w9 := Fr.trans (show Fr (fun z => z = w.heap.size ∨ z = OB) w3 _ from by (repeat' (first | with_reducible exact Fr.refl _ _ | with_reducible apply Fr.drew | with_reducible apply Fr.alloc | (with_reducible refine Fr.setCell ?_ (fun _ => Or.inr rfl) _)))) HF9.out (fun _ _ h => .inl h)
    have hb9 : Blk w9 OB ((D.setIfInBounds (k * 2) (.slice (some ⟨rr, off, none⟩) M1 (C k))).setIfInBounds (k * 2 + 1) (.int .i64 g.steps)) 88 := Blk.fr (Blk.drew (Blk.set (Blk.set HOB.out (k * 2) _) (k * 2 + 1) _)) HF9.out (fun e => by omega)
    obtain ⟨hv1, hv2, hv3⟩ := HH.out.vals k _ HGO.out
    (try dsimp only at hv1 hv3)
    have hll := HLL.out
    have hvl : (V k).length = M1 + 1 := by have := congrArg List.length hv1; rw [List.length_map] at this; omega
    have hvr : ∀ p ∈ V k, p.1.regs.length = 16 := fun p hp => (hv2 p hp).2
    have hsz := HH.out.size
    have hmp : ((V k).take M1).map (·.1) = ol.dropLast := by rw [← hv1, List.map_take, List.dropLast_eq_take, List.length_map, hvl]; simp
    have hfr9 : Fr (fun z => Rm z ∨ z = OB) w w9 := (HV3.out.2.2.mono (fun z _ h => .inl h)).trans hf9 (fun z hz e => by
      rcases e with e | e
      · omega
      · exact .inr e)
    have hrow := ((hv3.fr hfr9 (fun z hz e => by
      rcases e with e | e
      · exact HH.out.notG k z hz e
      · exact (HH.out.offG k z hz).2 e)).shrink (m := M1) (by omega))
    rw [gsC_take hvr] at hrow
    have hlv : ((V k).take M1).length = M1 := by rw [List.length_take]; omega
    have hfu := fin_u HH.out HM3.out HV3.out HGO.out (vs := (V k).take M1) (Gn := G k) (a' := A k) (c' := C k) (st := g.steps) hf9 (fun z hz => by
      rcases hz with rfl | rfl
      · exact ⟨.inl (Nat.le_refl _), hnw⟩
      · exact ⟨.inr (.inl rfl), hnob⟩) hb9 (by simp) ⟨by rw [Array.getElem?_setIfInBounds_ne (by omega), Array.getElem?_setIfInBounds_self_of_lt (by omega), hlv, HHA.out], by rw [Array.getElem?_setIfInBounds_self_of_lt (by simp; omega)]⟩
      (fun j h1 h2 => by rw [Array.getElem?_setIfInBounds_ne (by omega), Array.getElem?_setIfInBounds_ne (by omega)]) (fun p hp => hv2 p (List.mem_of_mem_take hp)) (by rw [hlv]; exact hrow)
      (fun z hz => ⟨.inl hz, Nat.lt_of_lt_of_le (HH.out.lt z (HH.out.inG k z hz)) hfr9.size, fun hm => by
        rcases HV3.out.2.1 z hm with h' | h'
        · exact HH.out.notG k z hz h'
        · have := HH.out.lt z (HH.out.inG k z hz); omega⟩)
    rw [hmp] at hfu
    rw [HHR.out]
    rw [HSU.out, HTT.out] at hfu
    exact ⟨rfl, hfu⟩
end Go.Proofs.Ytbfeopakmjcapaa.Sp
