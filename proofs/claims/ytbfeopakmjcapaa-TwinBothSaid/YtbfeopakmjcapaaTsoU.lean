/-
  Calc, by simple: a contract's call within.
-/
import Derived.Test.YtbfeopakmjcapaaTsoT
set_option linter.unusedVariables false
set_option linter.unusedSimpArgs false
set_option maxHeartbeats 4000000
set_option maxRecDepth 8000
namespace Go.Proofs.Ytbfeopakmjcapaa.Tso
open Go.RowKit Go.Proofs.Ytbfeopakmjcapaa.Seq
attribute [local irreducible] wpStill wpList Calls CallsIn

theorem simple_eval (B i : Nat) (R : Nat → Prop) (ids : List (Nat × Nat)) (Q : Nat → Nat → Prop) (m : M) (p : Nat × Nat) (t : Th) (op d a b n to who : Int) (w : World) (h : MRep w B R ids Q m) (hp : ids[i]? = some p) (ht : m.ths[i]? = some t) (hd : 0 ≤ d ∧ d < 16) (ha : 0 ≤ a ∧ a < 16) (hbb : 0 ≤ b ∧ b < 16) :
    Calls Try.prog 79 #[.pointer (some ⟨B, 0, none⟩), .pointer (some ⟨p.1, 0, none⟩), .int .i64 who, .agg (insC ⟨2, op, d, a, b, n, to⟩).toArray] w fun e w' => e = .returned (.tuple #[leakV ⟨0, who, 0, 0⟩, .bool true]) ∧
      MR w' R B ids { m with ths := m.ths.set i (t.set d (evalZ op (t.reg a) (t.reg b))).step } ∧ Fr R w w' := by
  have hpR := (h.inT p (List.mem_of_getElem? hp))
  obtain ⟨g0, ⟨ca, cc, hb, _⟩, _⟩ := h.th hp ht
  have b2 := th2 hb
  have f2 := hb.free 2
  have hlt := hb.lt
  have HB := hid hb
  have HR := hid h
  obtain ⟨d4, hd4, hd5⟩ := unLK
  obtain ⟨z, rfl⟩ : ∃ z : Nat, d = z := ⟨Int.toNat d, by omega⟩
  have hz_z : z < 16 := by omega
  have b_z := thr hb g0 hz_z
  have f_z := hb.free (3 + z)
  obtain ⟨v_z, hv_z⟩ : ∃ v, v = t.regs.getD z 0 := ⟨_, rfl⟩
  rw [← hv_z] at b_z
  have HV_z := hid (show t.reg ((z : Nat) : Int) = v_z from hv_z.symm)
  clear hv_z
  (try simp only [HV_z.out])
  have n1_z : ¬ (3 + z = 2) := by omega
  have n2_z : ¬ (2 = 3 + z) := by omega
  obtain ⟨x, rfl⟩ : ∃ z : Nat, a = z := ⟨Int.toNat a, by omega⟩
  have hz_x : x < 16 := by omega
  have b_x := thr hb g0 hz_x
  have f_x := hb.free (3 + x)
  obtain ⟨v_x, hv_x⟩ : ∃ v, v = t.regs.getD x 0 := ⟨_, rfl⟩
  rw [← hv_x] at b_x
  have HV_x := hid (show t.reg ((x : Nat) : Int) = v_x from hv_x.symm)
  clear hv_x
  (try simp only [HV_x.out])
  have n1_x : ¬ (3 + x = 2) := by omega
  have n2_x : ¬ (2 = 3 + x) := by omega
  obtain ⟨y, rfl⟩ : ∃ z : Nat, b = z := ⟨Int.toNat b, by omega⟩
  have hz_y : y < 16 := by omega
  have b_y := thr hb g0 hz_y
  have f_y := hb.free (3 + y)
  obtain ⟨v_y, hv_y⟩ : ∃ v, v = t.regs.getD y 0 := ⟨_, rfl⟩
  rw [← hv_y] at b_y
  have HV_y := hid (show t.reg ((y : Nat) : Int) = v_y from hv_y.symm)
  clear hv_y
  (try simp only [HV_y.out])
  have n1_y : ¬ (3 + y = 2) := by omega
  have n2_y : ¬ (2 = 3 + y) := by omega
  clear hb h
  dsimp only [insC] at *
  go_enter Try.func79, Try.ntmps79
  go_wp2_with (first | still_step | (with_reducible first | refine wpStill_nil ?_ | refine Flow.Both.mk ?_ ?_ | exact True.intro) | (with_reducible refine Flow.same_mk rfl rfl rfl ?_; go_simp; done) | (with_reducible exact Flow.same_un rfl rfl rfl) | (with_reducible refine Flow.region_flow (id := 3) [0, 0, 2, 0, 8, 1, 33, 127, 255] 256 254 [(0, none), (1, none), (2, none), (3, none), (4, none), (5, none), (6, none), (7, none), (8, some [])] mixed ?hB ?_; (case hB => decide +kernel); simp only [Flow.textOf, Flow.q1, Flow.q2, Flow.q3, Flow.q4, Flow.q5, Flow.q6, Flow.q7, Flow.q8, Flow.q9, Flow.wpFl, Flow.SameAll]) | (with_reducible refine Flow.region_flow (id := 5) [0, 0, 2, 0, 0, 16, 8, 72, 248, 504, 1, 1025, 4095, 8191] 8192 8182 [(0, none), (1, none), (2, none), (3, none), (4, none), (5, none), (6, none), (7, none), (8, none), (9, none), (10, none), (11, none), (12, none), (13, some [])] mixed ?hB ?_; (case hB => decide +kernel); simp only [Flow.textOf, Flow.q1, Flow.q2, Flow.q3, Flow.q4, Flow.q5, Flow.q6, Flow.q7, Flow.q8, Flow.q9, Flow.wpFl, Flow.SameAll]) | (with_reducible refine Flow.region_flow (id := 7) [0, 0, 2, 0, 8, 0, 0, 64, 32, 288, 992, 2016, 0, 0, 8192, 4096, 36864, 126976, 258048, 524280, 1, 1048577, 4194303, 8388607] 8912896 7860190 [(0, none), (1, none), (2, none), (3, none), (4, none), (5, none), (6, none), (7, none), (8, none), (9, none), (10, none), (11, none), (12, none), (13, none), (14, none), (15, none), (16, none), (17, none), (18, none), (20, none), (21, none), (19, some [1, 2, 20, 21]), (22, none), (23, some [])] mixed ?hB ?_; (case hB => decide +kernel); simp only [Flow.textOf, Flow.q1, Flow.q2, Flow.q3, Flow.q4, Flow.q5, Flow.q6, Flow.q7, Flow.q8, Flow.q9, Flow.wpFl, Flow.SameAll]) | (with_reducible refine Flow.region_flow (id := 10) [0, 0, 2, 0, 0, 16, 8, 72, 248, 504, 1, 1025, 4095, 8191] 8192 8182 [(0, none), (1, none), (2, none), (3, none), (4, none), (5, none), (6, none), (7, none), (8, none), (9, none), (10, none), (11, none), (12, none), (13, some [])] mixed ?hB ?_; (case hB => decide +kernel); simp only [Flow.textOf, Flow.q1, Flow.q2, Flow.q3, Flow.q4, Flow.q5, Flow.q6, Flow.q7, Flow.q8, Flow.q9, Flow.wpFl, Flow.SameAll]) | (refine Flow.region_still mixed ?hB ?_; (case hB => decide +kernel)))
  go_at_call 96
  refine (eval_is op v_x v_y _).mono ?_
  rintro e w1 ⟨rfl, hf1⟩
  have hx1 : Blk w1 w.heap.size #[.int .i64 2, .int .i64 op, .int .i64 z, .int .i64 x, .int .i64 y, .int .i64 n, .int .i64 to] 57 := by
    refine Blk.fr (S := fun _ => False) ?_ hf1 (fun h => h)
    (repeat' (first | with_reducible apply Blk.drew | (with_reducible refine Blk.new' ?_) | with_reducible apply Blk.alloc)) <;> first | rfl | (simp; done)
  have hl1 : Blk w1 (w.heap.size + 1) #[.int .i64 0, .int .i64 0, .int .i64 0, .int .i64 0] 37 := by
    refine Blk.fr (S := fun _ => False) ?_ hf1 (fun h => h)
    (repeat' (first | with_reducible apply Blk.drew | (with_reducible refine Blk.new' ?_) | with_reducible apply Blk.alloc)) <;> first | rfl | (simp; done)
  have HF1 := hid (show Fr (fun _ => False) w w1 from (show Fr (fun _ => False) w _ by (with_reducible repeat' (first | exact Fr.refl _ _ | apply Fr.alloc | apply Fr.drew | apply Fr.drewN | refine Fr.setCell ?_ ?_ _))).trans hf1 (fun _ _ h => h))
  have HL1 := hid hl1
  have HX1 := hid hx1
  have HB1 := hid (HB.out.fr HF1.out (fun h => h))
  have HR1 := hid (HR.out.fr HF1.out (fun _ _ h => h))
  have hlt1 := HB1.out.lt
  have hll1 := hl1.lt
  have hlx1 := hx1.lt
  have hnpx : ¬ (w.heap.size + 1 = p.1) := by omega
  have hnpy : ¬ (p.1 = w.heap.size + 1) := by omega
  have hnpz : ¬ (w.heap.size = p.1) := by omega
  have hnpw : ¬ (p.1 = w.heap.size) := by omega
  clear hl1 hf1
  have b2_ := Fr.cell HF1.out b2 (fun h => h)
  clear b2
  have b2 := b2_
  clear b2_
  have b_z_ := Fr.cell HF1.out b_z (fun h => h)
  clear b_z
  have b_z := b_z_
  clear b_z_
  have b_x_ := Fr.cell HF1.out b_x (fun h => h)
  clear b_x
  have b_x := b_x_
  clear b_x_
  have b_y_ := Fr.cell HF1.out b_y (fun h => h)
  clear b_y
  have b_y := b_y_
  clear b_y_
  have f2 := HB1.out.free 2
  have f_z := HB1.out.free (3 + z)
  have c0_x := Blk.cell hx1 0
  have f0_x := Blk.free hx1 0
  have c1_x := Blk.cell hx1 1
  have f1_x := Blk.free hx1 1
  have c2_x := Blk.cell hx1 2
  have f2_x := Blk.free hx1 2
  have c3_x := Blk.cell hx1 3
  have f3_x := Blk.free hx1 3
  have c4_x := Blk.cell hx1 4
  have f4_x := Blk.free hx1 4
  have c5_x := Blk.cell hx1 5
  have f5_x := Blk.free hx1 5
  have c6_x := Blk.cell hx1 6
  have f6_x := Blk.free hx1 6
  have l_x := Blk.lt hx1
  clear hx1
  go_wp2_with (first | ((with_reducible apply wpList_storeA (b := w.heap.size + 1) (C := #[.int .i64 0, .int .i64 0, .int .i64 0, .int .i64 0]) (T := 37)); (case zsx => rfl); (case zsy => rfl); (case zsn => rfl); (case zsi => exact szLK); (case zs1 => rfl); (case zsb => ((repeat' (first | with_reducible exact HL1.out | with_reducible exact HL2.out | with_reducible exact HL3.out | with_reducible exact HL4.out | with_reducible apply Blk.drew | (with_reducible refine Blk.set_ne ?_ ?_ _))); all_goals (first | omega | (simp; omega) | (simp; done)))); intro w9 hb9 hf9 hs9; have HB9 := hid hb9; have HF9 := hid hf9; have HSZ9 := hid hs9; clear hb9 hf9 hs9) | still_step | (with_reducible first | refine wpStill_nil ?_ | refine Flow.Both.mk ?_ ?_ | exact True.intro) | (with_reducible refine Flow.same_mk rfl rfl rfl ?_; go_simp; done) | (with_reducible exact Flow.same_un rfl rfl rfl) | (with_reducible refine Flow.region_flow (id := 3) [0, 0, 2, 0, 8, 1, 33, 127, 255] 256 254 [(0, none), (1, none), (2, none), (3, none), (4, none), (5, none), (6, none), (7, none), (8, some [])] mixed ?hB ?_; (case hB => decide +kernel); simp only [Flow.textOf, Flow.q1, Flow.q2, Flow.q3, Flow.q4, Flow.q5, Flow.q6, Flow.q7, Flow.q8, Flow.q9, Flow.wpFl, Flow.SameAll]) | (with_reducible refine Flow.region_flow (id := 5) [0, 0, 2, 0, 0, 16, 8, 72, 248, 504, 1, 1025, 4095, 8191] 8192 8182 [(0, none), (1, none), (2, none), (3, none), (4, none), (5, none), (6, none), (7, none), (8, none), (9, none), (10, none), (11, none), (12, none), (13, some [])] mixed ?hB ?_; (case hB => decide +kernel); simp only [Flow.textOf, Flow.q1, Flow.q2, Flow.q3, Flow.q4, Flow.q5, Flow.q6, Flow.q7, Flow.q8, Flow.q9, Flow.wpFl, Flow.SameAll]) | (with_reducible refine Flow.region_flow (id := 7) [0, 0, 2, 0, 8, 0, 0, 64, 32, 288, 992, 2016, 0, 0, 8192, 4096, 36864, 126976, 258048, 524280, 1, 1048577, 4194303, 8388607] 8912896 7860190 [(0, none), (1, none), (2, none), (3, none), (4, none), (5, none), (6, none), (7, none), (8, none), (9, none), (10, none), (11, none), (12, none), (13, none), (14, none), (15, none), (16, none), (17, none), (18, none), (20, none), (21, none), (19, some [1, 2, 20, 21]), (22, none), (23, some [])] mixed ?hB ?_; (case hB => decide +kernel); simp only [Flow.textOf, Flow.q1, Flow.q2, Flow.q3, Flow.q4, Flow.q5, Flow.q6, Flow.q7, Flow.q8, Flow.q9, Flow.wpFl, Flow.SameAll]) | (with_reducible refine Flow.region_flow (id := 10) [0, 0, 2, 0, 0, 16, 8, 72, 248, 504, 1, 1025, 4095, 8191] 8192 8182 [(0, none), (1, none), (2, none), (3, none), (4, none), (5, none), (6, none), (7, none), (8, none), (9, none), (10, none), (11, none), (12, none), (13, some [])] mixed ?hB ?_; (case hB => decide +kernel); simp only [Flow.textOf, Flow.q1, Flow.q2, Flow.q3, Flow.q4, Flow.q5, Flow.q6, Flow.q7, Flow.q8, Flow.q9, Flow.wpFl, Flow.SameAll]) | (refine Flow.region_still mixed ?hB ?_; (case hB => decide +kernel)))
  have hres := fun (C : Array Value) (hC : C.size = 4) (tmps : Array Value) (w : World) (b : Nat) (ha : tmps.getD 8 undef = .pointer (some ⟨b, 0, none⟩)) (hb : Blk w b C 37) => results_ct (P := Try.prog) Try.results79 ha hb hd4 hd5 (by rw [hC]; exact szLK)
  refine bodyPost_ret (hres _ rfl _ _ _ rfl HB9.out) rfl ?_
  refine ⟨rfl, MR.fr ⟨Q, blkTh HR1.out hp ht (t1 := (t.set z (evalZ op v_x v_y)).step) ?tfr HB1.out ?tblk rfl rfl ?tlen⟩ HF9.out ?tR, ?tend⟩
  case tfr => (with_reducible repeat' (first | exact Fr.refl _ _ | apply Fr.alloc | apply Fr.drew | apply Fr.drewN | refine Fr.setCell ?_ ?_ _)) <;> exact fun _ => rfl
  case tblk => (repeat (with_reducible apply Blk.drew)); exact (setPlace (setReg HB1.out z (by omega) _) _)
  case tlen => simp [Th.step, Th.set, g0]
  case tR => intro k hk e; have := HR.out.lt k hk; omega
  case tend => exact ((HF1.out.mono (S2 := R) (fun k _ h => h.elim)).trans (Fr.mono (S := fun k => k = p.1) (S2 := R) (by (with_reducible repeat' (first | exact Fr.refl _ _ | apply Fr.alloc | apply Fr.drew | apply Fr.drewN | refine Fr.setCell ?_ ?_ _)) <;> exact fun _ => rfl) (fun k _ e => by rw [e]; exact hpR.1)) (fun _ _ h => h)).trans HF9.out (fun k hk e => by omega)
end Go.Proofs.Ytbfeopakmjcapaa.Tso
