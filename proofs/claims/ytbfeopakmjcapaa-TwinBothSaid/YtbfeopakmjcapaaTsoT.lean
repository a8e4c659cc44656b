/-
  What the instructions do that are no events: simple, zero.
-/
import Derived.Test.YtbfeopakmjcapaaTsoS
set_option linter.unusedVariables false
set_option linter.unusedSimpArgs false
set_option maxHeartbeats 4000000
set_option maxRecDepth 8000
namespace Go.Proofs.Ytbfeopakmjcapaa.Tso
open Go.RowKit Go.Proofs.Ytbfeopakmjcapaa.Seq
attribute [local irreducible] wpStill wpList Calls CallsIn

theorem simple_set (B i : Nat) (R : Nat → Prop) (ids : List (Nat × Nat)) (Q : Nat → Nat → Prop) (m : M) (p : Nat × Nat) (t : Th) (op d a b n to who : Int) (w : World) (h : MRep w B R ids Q m) (hp : ids[i]? = some p) (ht : m.ths[i]? = some t) (hd : 0 ≤ d ∧ d < 16) :
    Calls Try.prog 79 #[.pointer (some ⟨B, 0, none⟩), .pointer (some ⟨p.1, 0, none⟩), .int .i64 who, .agg (insC ⟨0, op, d, a, b, n, to⟩).toArray] w fun e w' => e = .returned (.tuple #[leakV ⟨0, who, 0, 0⟩, .bool true]) ∧
      MR w' R B ids { m with ths := m.ths.set i ((t.set d n).step) } ∧ Fr R w w' := by
  have hpR := (h.inT p (List.mem_of_getElem? hp))
  obtain ⟨g0, ⟨ca, cc, hb, _⟩, _⟩ := h.th hp ht
  have b2 := th2 hb
  have f2 := hb.free 2
  have hlt := hb.lt
  have HB := hid hb
  have HR := hid h
  obtain ⟨d4, hd4, hd5⟩ := unLK
  obtain ⟨z, rfl⟩ : ∃ z : Nat, d = z := ⟨Int.toNat d, by omega⟩
  have hz_z : z < 16 := by omega
  have b_z := thr hb g0 hz_z
  have f_z := hb.free (3 + z)
  obtain ⟨v_z, hv_z⟩ : ∃ v, v = t.regs.getD z 0 := ⟨_, rfl⟩
  rw [← hv_z] at b_z
  have HV_z := hid (show t.reg ((z : Nat) : Int) = v_z from hv_z.symm)
  clear hv_z
  (try simp only [HV_z.out])
  have n1_z : ¬ (3 + z = 2) := by omega
  have n2_z : ¬ (2 = 3 + z) := by omega
  clear hb h
  dsimp only [insC] at *
  go_enter Try.func79, Try.ntmps79
  go_wp2_with (first | ((with_reducible apply wpList_storeA (b := w.heap.size + 1) (C := #[.int .i64 0, .int .i64 0, .int .i64 0, .int .i64 0]) (T := 37)); (case zsx => rfl); (case zsy => rfl); (case zsn => rfl); (case zsi => exact szLK); (case zs1 => rfl); (case zsb => ((repeat' (first | with_reducible apply Blk.drew | with_reducible apply Blk.drewN | (with_reducible refine Blk.new' ?_) | (with_reducible refine Blk.set_ne ?_ ?_ _))); all_goals (first | (simp; done) | (simp; omega) | omega))); intro w9 hb9 hf9 hs9; have HB9 := hid hb9; have HF9 := hid hf9; have HSZ9 := hid hs9; clear hb9 hf9 hs9) | still_step | (with_reducible first | refine wpStill_nil ?_ | refine Flow.Both.mk ?_ ?_ | exact True.intro) | (with_reducible refine Flow.same_mk rfl rfl rfl ?_; go_simp; done) | (with_reducible exact Flow.same_un rfl rfl rfl) | (with_reducible refine Flow.region_flow (id := 3) [0, 0, 2, 0, 8, 1, 33, 127, 255] 256 254 [(0, none), (1, none), (2, none), (3, none), (4, none), (5, none), (6, none), (7, none), (8, some [])] mixed ?hB ?_; (case hB => decide +kernel); simp only [Flow.textOf, Flow.q1, Flow.q2, Flow.q3, Flow.q4, Flow.q5, Flow.q6, Flow.q7, Flow.q8, Flow.q9, Flow.wpFl, Flow.SameAll]) | (with_reducible refine Flow.region_flow (id := 5) [0, 0, 2, 0, 0, 16, 8, 72, 248, 504, 1, 1025, 4095, 8191] 8192 8182 [(0, none), (1, none), (2, none), (3, none), (4, none), (5, none), (6, none), (7, none), (8, none), (9, none), (10, none), (11, none), (12, none), (13, some [])] mixed ?hB ?_; (case hB => decide +kernel); simp only [Flow.textOf, Flow.q1, Flow.q2, Flow.q3, Flow.q4, Flow.q5, Flow.q6, Flow.q7, Flow.q8, Flow.q9, Flow.wpFl, Flow.SameAll]) | (with_reducible refine Flow.region_flow (id := 7) [0, 0, 2, 0, 8, 0, 0, 64, 32, 288, 992, 2016, 0, 0, 8192, 4096, 36864, 126976, 258048, 524280, 1, 1048577, 4194303, 8388607] 8912896 7860190 [(0, none), (1, none), (2, none), (3, none), (4, none), (5, none), (6, none), (7, none), (8, none), (9, none), (10, none), (11, none), (12, none), (13, none), (14, none), (15, none), (16, none), (17, none), (18, none), (20, none), (21, none), (19, some [1, 2, 20, 21]), (22, none), (23, some [])] mixed ?hB ?_; (case hB => decide +kernel); simp only [Flow.textOf, Flow.q1, Flow.q2, Flow.q3, Flow.q4, Flow.q5, Flow.q6, Flow.q7, Flow.q8, Flow.q9, Flow.wpFl, Flow.SameAll]) | (with_reducible refine Flow.region_flow (id := 10) [0, 0, 2, 0, 0, 16, 8, 72, 248, 504, 1, 1025, 4095, 8191] 8192 8182 [(0, none), (1, none), (2, none), (3, none), (4, none), (5, none), (6, none), (7, none), (8, none), (9, none), (10, none), (11, none), (12, none), (13, some [])] mixed ?hB ?_; (case hB => decide +kernel); simp only [Flow.textOf, Flow.q1, Flow.q2, Flow.q3, Flow.q4, Flow.q5, Flow.q6, Flow.q7, Flow.q8, Flow.q9, Flow.wpFl, Flow.SameAll]) | (refine Flow.region_still mixed ?hB ?_; (case hB => decide +kernel)))
  have hres := fun (C : Array Value) (hC : C.size = 4) (tmps : Array Value) (w : World) (b : Nat) (ha : tmps.getD 8 undef = .pointer (some ⟨b, 0, none⟩)) (hb : Blk w b C 37) => results_ct (P := Try.prog) Try.results79 ha hb hd4 hd5 (by rw [hC]; exact szLK)
  refine bodyPost_ret (hres _ rfl _ _ _ rfl HB9.out) rfl ?_
  refine ⟨rfl, MR.fr ⟨Q, blkTh HR.out hp ht (t1 := (t.set z n).step) ?tfr HB.out ?tblk rfl rfl ?tlen⟩ HF9.out ?tR, ?tend⟩
  case tfr => (with_reducible repeat' (first | exact Fr.refl _ _ | apply Fr.alloc | apply Fr.drew | apply Fr.drewN | refine Fr.setCell ?_ ?_ _)) <;> exact fun _ => rfl
  case tblk => (repeat (with_reducible apply Blk.drew)); exact (((setPlace (setReg HB.out z (by omega) n) _).alloc _).alloc _)
  case tlen => simp [Th.step, Th.set, g0]
  case tR => intro k hk e; have := HR.out.lt k hk; omega
  case tend => exact (Fr.mono (S := fun k => k = p.1) (S2 := R) (by (with_reducible repeat' (first | exact Fr.refl _ _ | apply Fr.alloc | apply Fr.drew | apply Fr.drewN | refine Fr.setCell ?_ ?_ _)) <;> exact fun _ => rfl) (fun k _ e => by rw [e]; exact hpR.1)).trans HF9.out (fun k hk e => by omega)
theorem simple_move (B i : Nat) (R : Nat → Prop) (ids : List (Nat × Nat)) (Q : Nat → Nat → Prop) (m : M) (p : Nat × Nat) (t : Th) (op d a b n to who : Int) (w : World) (h : MRep w B R ids Q m) (hp : ids[i]? = some p) (ht : m.ths[i]? = some t) (hd : 0 ≤ d ∧ d < 16) (ha : 0 ≤ a ∧ a < 16) :
    Calls Try.prog 79 #[.pointer (some ⟨B, 0, none⟩), .pointer (some ⟨p.1, 0, none⟩), .int .i64 who, .agg (insC ⟨1, op, d, a, b, n, to⟩).toArray] w fun e w' => e = .returned (.tuple #[leakV ⟨0, who, 0, 0⟩, .bool true]) ∧
      MR w' R B ids { m with ths := m.ths.set i ((t.set d (t.reg a)).step) } ∧ Fr R w w' := by
  have hpR := (h.inT p (List.mem_of_getElem? hp))
  obtain ⟨g0, ⟨ca, cc, hb, _⟩, _⟩ := h.th hp ht
  have b2 := th2 hb
  have f2 := hb.free 2
  have hlt := hb.lt
  have HB := hid hb
  have HR := hid h
  obtain ⟨d4, hd4, hd5⟩ := unLK
  obtain ⟨z, rfl⟩ : ∃ z : Nat, d = z := ⟨Int.toNat d, by omega⟩
  have hz_z : z < 16 := by omega
  have b_z := thr hb g0 hz_z
  have f_z := hb.free (3 + z)
  obtain ⟨v_z, hv_z⟩ : ∃ v, v = t.regs.getD z 0 := ⟨_, rfl⟩
  rw [← hv_z] at b_z
  have HV_z := hid (show t.reg ((z : Nat) : Int) = v_z from hv_z.symm)
  clear hv_z
  (try simp only [HV_z.out])
  have n1_z : ¬ (3 + z = 2) := by omega
  have n2_z : ¬ (2 = 3 + z) := by omega
  obtain ⟨x, rfl⟩ : ∃ z : Nat, a = z := ⟨Int.toNat a, by omega⟩
  have hz_x : x < 16 := by omega
  have b_x := thr hb g0 hz_x
  have f_x := hb.free (3 + x)
  obtain ⟨v_x, hv_x⟩ : ∃ v, v = t.regs.getD x 0 := ⟨_, rfl⟩
  rw [← hv_x] at b_x
  have HV_x := hid (show t.reg ((x : Nat) : Int) = v_x from hv_x.symm)
  clear hv_x
  (try simp only [HV_x.out])
  have n1_x : ¬ (3 + x = 2) := by omega
  have n2_x : ¬ (2 = 3 + x) := by omega
  clear hb h
  dsimp only [insC] at *
  go_enter Try.func79, Try.ntmps79
  go_wp2_with (first | ((with_reducible apply wpList_storeA (b := w.heap.size + 1) (C := #[.int .i64 0, .int .i64 0, .int .i64 0, .int .i64 0]) (T := 37)); (case zsx => rfl); (case zsy => rfl); (case zsn => rfl); (case zsi => exact szLK); (case zs1 => rfl); (case zsb => ((repeat' (first | with_reducible apply Blk.drew | with_reducible apply Blk.drewN | (with_reducible refine Blk.new' ?_) | (with_reducible refine Blk.set_ne ?_ ?_ _))); all_goals (first | (simp; done) | (simp; omega) | omega))); intro w9 hb9 hf9 hs9; have HB9 := hid hb9; have HF9 := hid hf9; have HSZ9 := hid hs9; clear hb9 hf9 hs9) | still_step | (with_reducible first | refine wpStill_nil ?_ | refine Flow.Both.mk ?_ ?_ | exact True.intro) | (with_reducible refine Flow.same_mk rfl rfl rfl ?_; go_simp; done) | (with_reducible exact Flow.same_un rfl rfl rfl) | (with_reducible refine Flow.region_flow (id := 3) [0, 0, 2, 0, 8, 1, 33, 127, 255] 256 254 [(0, none), (1, none), (2, none), (3, none), (4, none), (5, none), (6, none), (7, none), (8, some [])] mixed ?hB ?_; (case hB => decide +kernel); simp only [Flow.textOf, Flow.q1, Flow.q2, Flow.q3, Flow.q4, Flow.q5, Flow.q6, Flow.q7, Flow.q8, Flow.q9, Flow.wpFl, Flow.SameAll]) | (with_reducible refine Flow.region_flow (id := 5) [0, 0, 2, 0, 0, 16, 8, 72, 248, 504, 1, 1025, 4095, 8191] 8192 8182 [(0, none), (1, none), (2, none), (3, none), (4, none), (5, none), (6, none), (7, none), (8, none), (9, none), (10, none), (11, none), (12, none), (13, some [])] mixed ?hB ?_; (case hB => decide +kernel); simp only [Flow.textOf, Flow.q1, Flow.q2, Flow.q3, Flow.q4, Flow.q5, Flow.q6, Flow.q7, Flow.q8, Flow.q9, Flow.wpFl, Flow.SameAll]) | (with_reducible refine Flow.region_flow (id := 7) [0, 0, 2, 0, 8, 0, 0, 64, 32, 288, 992, 2016, 0, 0, 8192, 4096, 36864, 126976, 258048, 524280, 1, 1048577, 4194303, 8388607] 8912896 7860190 [(0, none), (1, none), (2, none), (3, none), (4, none), (5, none), (6, none), (7, none), (8, none), (9, none), (10, none), (11, none), (12, none), (13, none), (14, none), (15, none), (16, none), (17, none), (18, none), (20, none), (21, none), (19, some [1, 2, 20, 21]), (22, none), (23, some [])] mixed ?hB ?_; (case hB => decide +kernel); simp only [Flow.textOf, Flow.q1, Flow.q2, Flow.q3, Flow.q4, Flow.q5, Flow.q6, Flow.q7, Flow.q8, Flow.q9, Flow.wpFl, Flow.SameAll]) | (with_reducible refine Flow.region_flow (id := 10) [0, 0, 2, 0, 0, 16, 8, 72, 248, 504, 1, 1025, 4095, 8191] 8192 8182 [(0, none), (1, none), (2, none), (3, none), (4, none), (5, none), (6, none), (7, none), (8, none), (9, none), (10, none), (11, none), (12, none), (13, some [])] mixed ?hB ?_; (case hB => decide +kernel); simp only [Flow.textOf, Flow.q1, Flow.q2, Flow.q3, Flow.q4, Flow.q5, Flow.q6, Flow.q7, Flow.q8, Flow.q9, Flow.wpFl, Flow.SameAll]) | (refine Flow.region_still mixed ?hB ?_; (case hB => decide +kernel)))
  have hres := fun (C : Array Value) (hC : C.size = 4) (tmps : Array Value) (w : World) (b : Nat) (ha : tmps.getD 8 undef = .pointer (some ⟨b, 0, none⟩)) (hb : Blk w b C 37) => results_ct (P := Try.prog) Try.results79 ha hb hd4 hd5 (by rw [hC]; exact szLK)
  refine bodyPost_ret (hres _ rfl _ _ _ rfl HB9.out) rfl ?_
  refine ⟨rfl, MR.fr ⟨Q, blkTh HR.out hp ht (t1 := (t.set z v_x).step) ?tfr HB.out ?tblk rfl rfl ?tlen⟩ HF9.out ?tR, ?tend⟩
  case tfr => (with_reducible repeat' (first | exact Fr.refl _ _ | apply Fr.alloc | apply Fr.drew | apply Fr.drewN | refine Fr.setCell ?_ ?_ _)) <;> exact fun _ => rfl
  case tblk => (repeat (with_reducible apply Blk.drew)); exact (((setPlace (setReg HB.out z (by omega) _) _).alloc _).alloc _)
  case tlen => simp [Th.step, Th.set, g0]
  case tR => intro k hk e; have := HR.out.lt k hk; omega
  case tend => exact (Fr.mono (S := fun k => k = p.1) (S2 := R) (by (with_reducible repeat' (first | exact Fr.refl _ _ | apply Fr.alloc | apply Fr.drew | apply Fr.drewN | refine Fr.setCell ?_ ?_ _)) <;> exact fun _ => rfl) (fun k _ e => by rw [e]; exact hpR.1)).trans HF9.out (fun k hk e => by omega)
theorem simple_pick1 (B i : Nat) (R : Nat → Prop) (ids : List (Nat × Nat)) (Q : Nat → Nat → Prop) (m : M) (p : Nat × Nat) (t : Th) (op d a b n to who : Int) (w : World) (h : MRep w B R ids Q m) (hp : ids[i]? = some p) (ht : m.ths[i]? = some t) (hd : 0 ≤ d ∧ d < 16) (ha : 0 ≤ a ∧ a < 16) (hbb : 0 ≤ b ∧ b < 16) (hg : t.reg a ≠ 0) :
    Calls Try.prog 79 #[.pointer (some ⟨B, 0, none⟩), .pointer (some ⟨p.1, 0, none⟩), .int .i64 who, .agg (insC ⟨3, op, d, a, b, n, to⟩).toArray] w fun e w' => e = .returned (.tuple #[leakV ⟨0, who, 0, 0⟩, .bool true]) ∧
      MR w' R B ids { m with ths := m.ths.set i ((t.set d (t.reg b)).step) } ∧ Fr R w w' := by
  have hpR := (h.inT p (List.mem_of_getElem? hp))
  obtain ⟨g0, ⟨ca, cc, hb, _⟩, _⟩ := h.th hp ht
  have b2 := th2 hb
  have f2 := hb.free 2
  have hlt := hb.lt
  have HB := hid hb
  have HR := hid h
  obtain ⟨d4, hd4, hd5⟩ := unLK
  obtain ⟨z, rfl⟩ : ∃ z : Nat, d = z := ⟨Int.toNat d, by omega⟩
  have hz_z : z < 16 := by omega
  have b_z := thr hb g0 hz_z
  have f_z := hb.free (3 + z)
  obtain ⟨v_z, hv_z⟩ : ∃ v, v = t.regs.getD z 0 := ⟨_, rfl⟩
  rw [← hv_z] at b_z
  have HV_z := hid (show t.reg ((z : Nat) : Int) = v_z from hv_z.symm)
  clear hv_z
  (try simp only [HV_z.out])
  have n1_z : ¬ (3 + z = 2) := by omega
  have n2_z : ¬ (2 = 3 + z) := by omega
  obtain ⟨x, rfl⟩ : ∃ z : Nat, a = z := ⟨Int.toNat a, by omega⟩
  have hz_x : x < 16 := by omega
  have b_x := thr hb g0 hz_x
  have f_x := hb.free (3 + x)
  obtain ⟨v_x, hv_x⟩ : ∃ v, v = t.regs.getD x 0 := ⟨_, rfl⟩
  rw [← hv_x] at b_x
  have HV_x := hid (show t.reg ((x : Nat) : Int) = v_x from hv_x.symm)
  clear hv_x
  (try simp only [HV_x.out])
  have n1_x : ¬ (3 + x = 2) := by omega
  have n2_x : ¬ (2 = 3 + x) := by omega
  obtain ⟨y, rfl⟩ : ∃ z : Nat, b = z := ⟨Int.toNat b, by omega⟩
  have hz_y : y < 16 := by omega
  have b_y := thr hb g0 hz_y
  have f_y := hb.free (3 + y)
  obtain ⟨v_y, hv_y⟩ : ∃ v, v = t.regs.getD y 0 := ⟨_, rfl⟩
  rw [← hv_y] at b_y
  have HV_y := hid (show t.reg ((y : Nat) : Int) = v_y from hv_y.symm)
  clear hv_y
  (try simp only [HV_y.out])
  have n1_y : ¬ (3 + y = 2) := by omega
  have n2_y : ¬ (2 = 3 + y) := by omega
  have hgt2 : ¬ (v_x = 0) := fun e => hg (HV_x.out.trans e)
  have hgt : (v_x != 0) = true := by simpa using hgt2
  clear hb h
  dsimp only [insC] at *
  go_enter Try.func79, Try.ntmps79
  go_wp2_with (first | ((with_reducible apply wpList_storeA (b := w.heap.size + 1) (C := #[.int .i64 0, .int .i64 0, .int .i64 0, .int .i64 0]) (T := 37)); (case zsx => rfl); (case zsy => rfl); (case zsn => rfl); (case zsi => exact szLK); (case zs1 => rfl); (case zsb => ((repeat' (first | with_reducible apply Blk.drew | with_reducible apply Blk.drewN | (with_reducible refine Blk.new' ?_) | (with_reducible refine Blk.set_ne ?_ ?_ _))); all_goals (first | (simp; done) | (simp; omega) | omega))); intro w9 hb9 hf9 hs9; have HB9 := hid hb9; have HF9 := hid hf9; have HSZ9 := hid hs9; clear hb9 hf9 hs9) | still_step | (with_reducible first | refine wpStill_nil ?_ | refine Flow.Both.mk ?_ ?_ | exact True.intro) | (with_reducible refine Flow.same_mk rfl rfl rfl ?_; go_simp; done) | (with_reducible exact Flow.same_un rfl rfl rfl) | (with_reducible refine Flow.region_flow (id := 3) [0, 0, 2, 0, 8, 1, 33, 127, 255] 256 254 [(0, none), (1, none), (2, none), (3, none), (4, none), (5, none), (6, none), (7, none), (8, some [])] mixed ?hB ?_; (case hB => decide +kernel); simp only [Flow.textOf, Flow.q1, Flow.q2, Flow.q3, Flow.q4, Flow.q5, Flow.q6, Flow.q7, Flow.q8, Flow.q9, Flow.wpFl, Flow.SameAll]) | (with_reducible refine Flow.region_flow (id := 5) [0, 0, 2, 0, 0, 16, 8, 72, 248, 504, 1, 1025, 4095, 8191] 8192 8182 [(0, none), (1, none), (2, none), (3, none), (4, none), (5, none), (6, none), (7, none), (8, none), (9, none), (10, none), (11, none), (12, none), (13, some [])] mixed ?hB ?_; (case hB => decide +kernel); simp only [Flow.textOf, Flow.q1, Flow.q2, Flow.q3, Flow.q4, Flow.q5, Flow.q6, Flow.q7, Flow.q8, Flow.q9, Flow.wpFl, Flow.SameAll]) | (with_reducible refine Flow.region_flow (id := 7) [0, 0, 2, 0, 8, 0, 0, 64, 32, 288, 992, 2016, 0, 0, 8192, 4096, 36864, 126976, 258048, 524280, 1, 1048577, 4194303, 8388607] 8912896 7860190 [(0, none), (1, none), (2, none), (3, none), (4, none), (5, none), (6, none), (7, none), (8, none), (9, none), (10, none), (11, none), (12, none), (13, none), (14, none), (15, none), (16, none), (17, none), (18, none), (20, none), (21, none), (19, some [1, 2, 20, 21]), (22, none), (23, some [])] mixed ?hB ?_; (case hB => decide +kernel); simp only [Flow.textOf, Flow.q1, Flow.q2, Flow.q3, Flow.q4, Flow.q5, Flow.q6, Flow.q7, Flow.q8, Flow.q9, Flow.wpFl, Flow.SameAll]) | (with_reducible refine Flow.region_flow (id := 10) [0, 0, 2, 0, 0, 16, 8, 72, 248, 504, 1, 1025, 4095, 8191] 8192 8182 [(0, none), (1, none), (2, none), (3, none), (4, none), (5, none), (6, none), (7, none), (8, none), (9, none), (10, none), (11, none), (12, none), (13, some [])] mixed ?hB ?_; (case hB => decide +kernel); simp only [Flow.textOf, Flow.q1, Flow.q2, Flow.q3, Flow.q4, Flow.q5, Flow.q6, Flow.q7, Flow.q8, Flow.q9, Flow.wpFl, Flow.SameAll]) | (refine Flow.region_still mixed ?hB ?_; (case hB => decide +kernel)))
  have hres := fun (C : Array Value) (hC : C.size = 4) (tmps : Array Value) (w : World) (b : Nat) (ha : tmps.getD 8 undef = .pointer (some ⟨b, 0, none⟩)) (hb : Blk w b C 37) => results_ct (P := Try.prog) Try.results79 ha hb hd4 hd5 (by rw [hC]; exact szLK)
  refine bodyPost_ret (hres _ rfl _ _ _ rfl HB9.out) rfl ?_
  refine ⟨rfl, MR.fr ⟨Q, blkTh HR.out hp ht (t1 := (t.set z v_y).step) ?tfr HB.out ?tblk rfl rfl ?tlen⟩ HF9.out ?tR, ?tend⟩
  case tfr => (with_reducible repeat' (first | exact Fr.refl _ _ | apply Fr.alloc | apply Fr.drew | apply Fr.drewN | refine Fr.setCell ?_ ?_ _)) <;> exact fun _ => rfl
  case tblk => (repeat (with_reducible apply Blk.drew)); exact (((setPlace (setReg HB.out z (by omega) _) _).alloc _).alloc _)
  case tlen => simp [Th.step, Th.set, g0]
  case tR => intro k hk e; have := HR.out.lt k hk; omega
  case tend => exact (Fr.mono (S := fun k => k = p.1) (S2 := R) (by (with_reducible repeat' (first | exact Fr.refl _ _ | apply Fr.alloc | apply Fr.drew | apply Fr.drewN | refine Fr.setCell ?_ ?_ _)) <;> exact fun _ => rfl) (fun k _ e => by rw [e]; exact hpR.1)).trans HF9.out (fun k hk e => by omega)
theorem simple_pick0 (B i : Nat) (R : Nat → Prop) (ids : List (Nat × Nat)) (Q : Nat → Nat → Prop) (m : M) (p : Nat × Nat) (t : Th) (op d a b n to who : Int) (w : World) (h : MRep w B R ids Q m) (hp : ids[i]? = some p) (ht : m.ths[i]? = some t) (hd : 0 ≤ d ∧ d < 16) (ha : 0 ≤ a ∧ a < 16) (hg : t.reg a = 0) :
    Calls Try.prog 79 #[.pointer (some ⟨B, 0, none⟩), .pointer (some ⟨p.1, 0, none⟩), .int .i64 who, .agg (insC ⟨3, op, d, a, b, n, to⟩).toArray] w fun e w' => e = .returned (.tuple #[leakV ⟨0, who, 0, 0⟩, .bool true]) ∧
      MR w' R B ids { m with ths := m.ths.set i (t.step) } ∧ Fr R w w' := by
  have hpR := (h.inT p (List.mem_of_getElem? hp))
  obtain ⟨g0, ⟨ca, cc, hb, _⟩, _⟩ := h.th hp ht
  have b2 := th2 hb
  have f2 := hb.free 2
  have hlt := hb.lt
  have HB := hid hb
  have HR := hid h
  obtain ⟨d4, hd4, hd5⟩ := unLK
  obtain ⟨x, rfl⟩ : ∃ z : Nat, a = z := ⟨Int.toNat a, by omega⟩
  have hz_x : x < 16 := by omega
  have b_x := thr hb g0 hz_x
  have f_x := hb.free (3 + x)
  obtain ⟨v_x, hv_x⟩ : ∃ v, v = t.regs.getD x 0 := ⟨_, rfl⟩
  rw [← hv_x] at b_x
  have HV_x := hid (show t.reg ((x : Nat) : Int) = v_x from hv_x.symm)
  clear hv_x
  (try simp only [HV_x.out])
  have n1_x : ¬ (3 + x = 2) := by omega
  have n2_x : ¬ (2 = 3 + x) := by omega
  have hgt : v_x = 0 := HV_x.out.symm.trans hg
  rw [hgt] at b_x
  clear hb h
  dsimp only [insC] at *
  go_enter Try.func79, Try.ntmps79
  go_wp2_with (first | ((with_reducible apply wpList_storeA (b := w.heap.size + 1) (C := #[.int .i64 0, .int .i64 0, .int .i64 0, .int .i64 0]) (T := 37)); (case zsx => rfl); (case zsy => rfl); (case zsn => rfl); (case zsi => exact szLK); (case zs1 => rfl); (case zsb => ((repeat' (first | with_reducible apply Blk.drew | with_reducible apply Blk.drewN | (with_reducible refine Blk.new' ?_) | (with_reducible refine Blk.set_ne ?_ ?_ _))); all_goals (first | (simp; done) | (simp; omega) | omega))); intro w9 hb9 hf9 hs9; have HB9 := hid hb9; have HF9 := hid hf9; have HSZ9 := hid hs9; clear hb9 hf9 hs9) | still_step | (with_reducible first | refine wpStill_nil ?_ | refine Flow.Both.mk ?_ ?_ | exact True.intro) | (with_reducible refine Flow.same_mk rfl rfl rfl ?_; go_simp; done) | (with_reducible exact Flow.same_un rfl rfl rfl) | (with_reducible refine Flow.region_flow (id := 3) [0, 0, 2, 0, 8, 1, 33, 127, 255] 256 254 [(0, none), (1, none), (2, none), (3, none), (4, none), (5, none), (6, none), (7, none), (8, some [])] mixed ?hB ?_; (case hB => decide +kernel); simp only [Flow.textOf, Flow.q1, Flow.q2, Flow.q3, Flow.q4, Flow.q5, Flow.q6, Flow.q7, Flow.q8, Flow.q9, Flow.wpFl, Flow.SameAll]) | (with_reducible refine Flow.region_flow (id := 5) [0, 0, 2, 0, 0, 16, 8, 72, 248, 504, 1, 1025, 4095, 8191] 8192 8182 [(0, none), (1, none), (2, none), (3, none), (4, none), (5, none), (6, none), (7, none), (8, none), (9, none), (10, none), (11, none), (12, none), (13, some [])] mixed ?hB ?_; (case hB => decide +kernel); simp only [Flow.textOf, Flow.q1, Flow.q2, Flow.q3, Flow.q4, Flow.q5, Flow.q6, Flow.q7, Flow.q8, Flow.q9, Flow.wpFl, Flow.SameAll]) | (with_reducible refine Flow.region_flow (id := 7) [0, 0, 2, 0, 8, 0, 0, 64, 32, 288, 992, 2016, 0, 0, 8192, 4096, 36864, 126976, 258048, 524280, 1, 1048577, 4194303, 8388607] 8912896 7860190 [(0, none), (1, none), (2, none), (3, none), (4, none), (5, none), (6, none), (7, none), (8, none), (9, none), (10, none), (11, none), (12, none), (13, none), (14, none), (15, none), (16, none), (17, none), (18, none), (20, none), (21, none), (19, some [1, 2, 20, 21]), (22, none), (23, some [])] mixed ?hB ?_; (case hB => decide +kernel); simp only [Flow.textOf, Flow.q1, Flow.q2, Flow.q3, Flow.q4, Flow.q5, Flow.q6, Flow.q7, Flow.q8, Flow.q9, Flow.wpFl, Flow.SameAll]) | (with_reducible refine Flow.region_flow (id := 10) [0, 0, 2, 0, 0, 16, 8, 72, 248, 504, 1, 1025, 4095, 8191] 8192 8182 [(0, none), (1, none), (2, none), (3, none), (4, none), (5, none), (6, none), (7, none), (8, none), (9, none), (10, none), (11, none), (12, none), (13, some [])] mixed ?hB ?_; (case hB => decide +kernel); simp only [Flow.textOf, Flow.q1, Flow.q2, Flow.q3, Flow.q4, Flow.q5, Flow.q6, Flow.q7, Flow.q8, Flow.q9, Flow.wpFl, Flow.SameAll]) | (refine Flow.region_still mixed ?hB ?_; (case hB => decide +kernel)))
  have hres := fun (C : Array Value) (hC : C.size = 4) (tmps : Array Value) (w : World) (b : Nat) (ha : tmps.getD 8 undef = .pointer (some ⟨b, 0, none⟩)) (hb : Blk w b C 37) => results_ct (P := Try.prog) Try.results79 ha hb hd4 hd5 (by rw [hC]; exact szLK)
  refine bodyPost_ret (hres _ rfl _ _ _ rfl HB9.out) rfl ?_
  refine ⟨rfl, MR.fr ⟨Q, blkTh HR.out hp ht (t1 := t.step) ?tfr HB.out ?tblk rfl rfl ?tlen⟩ HF9.out ?tR, ?tend⟩
  case tfr => (with_reducible repeat' (first | exact Fr.refl _ _ | apply Fr.alloc | apply Fr.drew | apply Fr.drewN | refine Fr.setCell ?_ ?_ _)) <;> exact fun _ => rfl
  case tblk => (repeat (with_reducible apply Blk.drew)); exact (((setPlace HB.out _).alloc _).alloc _)
  case tlen => simp [Th.step, Th.set, g0]
  case tR => intro k hk e; have := HR.out.lt k hk; omega
  case tend => exact (Fr.mono (S := fun k => k = p.1) (S2 := R) (by (with_reducible repeat' (first | exact Fr.refl _ _ | apply Fr.alloc | apply Fr.drew | apply Fr.drewN | refine Fr.setCell ?_ ?_ _)) <;> exact fun _ => rfl) (fun k _ e => by rw [e]; exact hpR.1)).trans HF9.out (fun k hk e => by omega)
theorem simple_jump (B i : Nat) (R : Nat → Prop) (ids : List (Nat × Nat)) (Q : Nat → Nat → Prop) (m : M) (p : Nat × Nat) (t : Th) (op d a b n to who : Int) (w : World) (h : MRep w B R ids Q m) (hp : ids[i]? = some p) (ht : m.ths[i]? = some t)  :
    Calls Try.prog 79 #[.pointer (some ⟨B, 0, none⟩), .pointer (some ⟨p.1, 0, none⟩), .int .i64 who, .agg (insC ⟨6, op, d, a, b, n, to⟩).toArray] w fun e w' => e = .returned (.tuple #[leakV ⟨0, who, 0, 0⟩, .bool true]) ∧
      MR w' R B ids { m with ths := m.ths.set i ({ t.step with place := to }) } ∧ Fr R w w' := by
  have hpR := (h.inT p (List.mem_of_getElem? hp))
  obtain ⟨g0, ⟨ca, cc, hb, _⟩, _⟩ := h.th hp ht
  have b2 := th2 hb
  have f2 := hb.free 2
  have hlt := hb.lt
  have HB := hid hb
  have HR := hid h
  obtain ⟨d4, hd4, hd5⟩ := unLK
  clear hb h
  dsimp only [insC] at *
  go_enter Try.func79, Try.ntmps79
  go_wp2_with (first | ((with_reducible apply wpList_storeA (b := w.heap.size + 1) (C := #[.int .i64 0, .int .i64 0, .int .i64 0, .int .i64 0]) (T := 37)); (case zsx => rfl); (case zsy => rfl); (case zsn => rfl); (case zsi => exact szLK); (case zs1 => rfl); (case zsb => ((repeat' (first | with_reducible apply Blk.drew | with_reducible apply Blk.drewN | (with_reducible refine Blk.new' ?_) | (with_reducible refine Blk.set_ne ?_ ?_ _))); all_goals (first | (simp; done) | (simp; omega) | omega))); intro w9 hb9 hf9 hs9; have HB9 := hid hb9; have HF9 := hid hf9; have HSZ9 := hid hs9; clear hb9 hf9 hs9) | still_step | (with_reducible first | refine wpStill_nil ?_ | refine Flow.Both.mk ?_ ?_ | exact True.intro) | (with_reducible refine Flow.same_mk rfl rfl rfl ?_; go_simp; done) | (with_reducible exact Flow.same_un rfl rfl rfl) | (with_reducible refine Flow.region_flow (id := 3) [0, 0, 2, 0, 8, 1, 33, 127, 255] 256 254 [(0, none), (1, none), (2, none), (3, none), (4, none), (5, none), (6, none), (7, none), (8, some [])] mixed ?hB ?_; (case hB => decide +kernel); simp only [Flow.textOf, Flow.q1, Flow.q2, Flow.q3, Flow.q4, Flow.q5, Flow.q6, Flow.q7, Flow.q8, Flow.q9, Flow.wpFl, Flow.SameAll]) | (with_reducible refine Flow.region_flow (id := 5) [0, 0, 2, 0, 0, 16, 8, 72, 248, 504, 1, 1025, 4095, 8191] 8192 8182 [(0, none), (1, none), (2, none), (3, none), (4, none), (5, none), (6, none), (7, none), (8, none), (9, none), (10, none), (11, none), (12, none), (13, some [])] mixed ?hB ?_; (case hB => decide +kernel); simp only [Flow.textOf, Flow.q1, Flow.q2, Flow.q3, Flow.q4, Flow.q5, Flow.q6, Flow.q7, Flow.q8, Flow.q9, Flow.wpFl, Flow.SameAll]) | (with_reducible refine Flow.region_flow (id := 7) [0, 0, 2, 0, 8, 0, 0, 64, 32, 288, 992, 2016, 0, 0, 8192, 4096, 36864, 126976, 258048, 524280, 1, 1048577, 4194303, 8388607] 8912896 7860190 [(0, none), (1, none), (2, none), (3, none), (4, none), (5, none), (6, none), (7, none), (8, none), (9, none), (10, none), (11, none), (12, none), (13, none), (14, none), (15, none), (16, none), (17, none), (18, none), (20, none), (21, none), (19, some [1, 2, 20, 21]), (22, none), (23, some [])] mixed ?hB ?_; (case hB => decide +kernel); simp only [Flow.textOf, Flow.q1, Flow.q2, Flow.q3, Flow.q4, Flow.q5, Flow.q6, Flow.q7, Flow.q8, Flow.q9, Flow.wpFl, Flow.SameAll]) | (with_reducible refine Flow.region_flow (id := 10) [0, 0, 2, 0, 0, 16, 8, 72, 248, 504, 1, 1025, 4095, 8191] 8192 8182 [(0, none), (1, none), (2, none), (3, none), (4, none), (5, none), (6, none), (7, none), (8, none), (9, none), (10, none), (11, none), (12, none), (13, some [])] mixed ?hB ?_; (case hB => decide +kernel); simp only [Flow.textOf, Flow.q1, Flow.q2, Flow.q3, Flow.q4, Flow.q5, Flow.q6, Flow.q7, Flow.q8, Flow.q9, Flow.wpFl, Flow.SameAll]) | (refine Flow.region_still mixed ?hB ?_; (case hB => decide +kernel)))
  have hres := fun (C : Array Value) (hC : C.size = 4) (tmps : Array Value) (w : World) (b : Nat) (ha : tmps.getD 8 undef = .pointer (some ⟨b, 0, none⟩)) (hb : Blk w b C 37) => results_ct (P := Try.prog) Try.results79 ha hb hd4 hd5 (by rw [hC]; exact szLK)
  refine bodyPost_ret (hres _ rfl _ _ _ rfl HB9.out) rfl ?_
  refine ⟨rfl, MR.fr ⟨Q, blkTh HR.out hp ht (t1 := { t.step with place := to }) ?tfr HB.out ?tblk rfl rfl ?tlen⟩ HF9.out ?tR, ?tend⟩
  case tfr => (with_reducible repeat' (first | exact Fr.refl _ _ | apply Fr.alloc | apply Fr.drew | apply Fr.drewN | refine Fr.setCell ?_ ?_ _)) <;> exact fun _ => rfl
  case tblk => (repeat (with_reducible apply Blk.drew)); exact (((setPlace (setPlace HB.out _) _).alloc _).alloc _)
  case tlen => simp [Th.step, Th.set, g0]
  case tR => intro k hk e; have := HR.out.lt k hk; omega
  case tend => exact (Fr.mono (S := fun k => k = p.1) (S2 := R) (by (with_reducible repeat' (first | exact Fr.refl _ _ | apply Fr.alloc | apply Fr.drew | apply Fr.drewN | refine Fr.setCell ?_ ?_ _)) <;> exact fun _ => rfl) (fun k _ e => by rw [e]; exact hpR.1)).trans HF9.out (fun k hk e => by omega)
theorem simple_else (B i : Nat) (R : Nat → Prop) (ids : List (Nat × Nat)) (Q : Nat → Nat → Prop) (m : M) (p : Nat × Nat) (t : Th) (k op d a b n to who : Int) (w : World) (h : MRep w B R ids Q m) (hp : ids[i]? = some p) (ht : m.ths[i]? = some t) (hk : k ≠ 0 ∧ k ≠ 1 ∧ k ≠ 2 ∧ k ≠ 3 ∧ k ≠ 6) :
    Calls Try.prog 79 #[.pointer (some ⟨B, 0, none⟩), .pointer (some ⟨p.1, 0, none⟩), .int .i64 who, .agg (insC ⟨k, op, d, a, b, n, to⟩).toArray] w fun e w' => e = .returned (.tuple #[leakV ⟨0, who, 0, 0⟩, .bool true]) ∧
      MR w' R B ids { m with ths := m.ths.set i (t.step) } ∧ Fr R w w' := by
  have hpR := (h.inT p (List.mem_of_getElem? hp))
  obtain ⟨g0, ⟨ca, cc, hb, _⟩, _⟩ := h.th hp ht
  have b2 := th2 hb
  have f2 := hb.free 2
  have hlt := hb.lt
  have HB := hid hb
  have HR := hid h
  obtain ⟨d4, hd4, hd5⟩ := unLK
  obtain ⟨k0, k1, k2, k3, k6⟩ := hk
  clear hb h
  dsimp only [insC] at *
  go_enter Try.func79, Try.ntmps79
  go_wp2_with (first | ((with_reducible apply wpList_storeA (b := w.heap.size + 1) (C := #[.int .i64 0, .int .i64 0, .int .i64 0, .int .i64 0]) (T := 37)); (case zsx => rfl); (case zsy => rfl); (case zsn => rfl); (case zsi => exact szLK); (case zs1 => rfl); (case zsb => ((repeat' (first | with_reducible apply Blk.drew | with_reducible apply Blk.drewN | (with_reducible refine Blk.new' ?_) | (with_reducible refine Blk.set_ne ?_ ?_ _))); all_goals (first | (simp; done) | (simp; omega) | omega))); intro w9 hb9 hf9 hs9; have HB9 := hid hb9; have HF9 := hid hf9; have HSZ9 := hid hs9; clear hb9 hf9 hs9) | still_step | (with_reducible first | refine wpStill_nil ?_ | refine Flow.Both.mk ?_ ?_ | exact True.intro) | (with_reducible refine Flow.same_mk rfl rfl rfl ?_; go_simp; done) | (with_reducible exact Flow.same_un rfl rfl rfl) | (with_reducible refine Flow.region_flow (id := 3) [0, 0, 2, 0, 8, 1, 33, 127, 255] 256 254 [(0, none), (1, none), (2, none), (3, none), (4, none), (5, none), (6, none), (7, none), (8, some [])] mixed ?hB ?_; (case hB => decide +kernel); simp only [Flow.textOf, Flow.q1, Flow.q2, Flow.q3, Flow.q4, Flow.q5, Flow.q6, Flow.q7, Flow.q8, Flow.q9, Flow.wpFl, Flow.SameAll]) | (with_reducible refine Flow.region_flow (id := 5) [0, 0, 2, 0, 0, 16, 8, 72, 248, 504, 1, 1025, 4095, 8191] 8192 8182 [(0, none), (1, none), (2, none), (3, none), (4, none), (5, none), (6, none), (7, none), (8, none), (9, none), (10, none), (11, none), (12, none), (13, some [])] mixed ?hB ?_; (case hB => decide +kernel); simp only [Flow.textOf, Flow.q1, Flow.q2, Flow.q3, Flow.q4, Flow.q5, Flow.q6, Flow.q7, Flow.q8, Flow.q9, Flow.wpFl, Flow.SameAll]) | (with_reducible refine Flow.region_flow (id := 7) [0, 0, 2, 0, 8, 0, 0, 64, 32, 288, 992, 2016, 0, 0, 8192, 4096, 36864, 126976, 258048, 524280, 1, 1048577, 4194303, 8388607] 8912896 7860190 [(0, none), (1, none), (2, none), (3, none), (4, none), (5, none), (6, none), (7, none), (8, none), (9, none), (10, none), (11, none), (12, none), (13, none), (14, none), (15, none), (16, none), (17, none), (18, none), (20, none), (21, none), (19, some [1, 2, 20, 21]), (22, none), (23, some [])] mixed ?hB ?_; (case hB => decide +kernel); simp only [Flow.textOf, Flow.q1, Flow.q2, Flow.q3, Flow.q4, Flow.q5, Flow.q6, Flow.q7, Flow.q8, Flow.q9, Flow.wpFl, Flow.SameAll]) | (with_reducible refine Flow.region_flow (id := 10) [0, 0, 2, 0, 0, 16, 8, 72, 248, 504, 1, 1025, 4095, 8191] 8192 8182 [(0, none), (1, none), (2, none), (3, none), (4, none), (5, none), (6, none), (7, none), (8, none), (9, none), (10, none), (11, none), (12, none), (13, some [])] mixed ?hB ?_; (case hB => decide +kernel); simp only [Flow.textOf, Flow.q1, Flow.q2, Flow.q3, Flow.q4, Flow.q5, Flow.q6, Flow.q7, Flow.q8, Flow.q9, Flow.wpFl, Flow.SameAll]) | (refine Flow.region_still mixed ?hB ?_; (case hB => decide +kernel)))
  have hres := fun (C : Array Value) (hC : C.size = 4) (tmps : Array Value) (w : World) (b : Nat) (ha : tmps.getD 8 undef = .pointer (some ⟨b, 0, none⟩)) (hb : Blk w b C 37) => results_ct (P := Try.prog) Try.results79 ha hb hd4 hd5 (by rw [hC]; exact szLK)
  refine bodyPost_ret (hres _ rfl _ _ _ rfl HB9.out) rfl ?_
  refine ⟨rfl, MR.fr ⟨Q, blkTh HR.out hp ht (t1 := t.step) ?tfr HB.out ?tblk rfl rfl ?tlen⟩ HF9.out ?tR, ?tend⟩
  case tfr => (with_reducible repeat' (first | exact Fr.refl _ _ | apply Fr.alloc | apply Fr.drew | apply Fr.drewN | refine Fr.setCell ?_ ?_ _)) <;> exact fun _ => rfl
  case tblk => (repeat (with_reducible apply Blk.drew)); exact (((setPlace HB.out _).alloc _).alloc _)
  case tlen => simp [Th.step, Th.set, g0]
  case tR => intro k hk e; have := HR.out.lt k hk; omega
  case tend => exact (Fr.mono (S := fun k => k = p.1) (S2 := R) (by (with_reducible repeat' (first | exact Fr.refl _ _ | apply Fr.alloc | apply Fr.drew | apply Fr.drewN | refine Fr.setCell ?_ ?_ _)) <;> exact fun _ => rfl) (fun k _ e => by rw [e]; exact hpR.1)).trans HF9.out (fun k hk e => by omega)
theorem zero_yes (B i : Nat) (R : Nat → Prop) (ids : List (Nat × Nat)) (Q : Nat → Nat → Prop) (m : M) (p : Nat × Nat) (t : Th) (op d a b n to who : Int) (w : World) (h : MRep w B R ids Q m) (hp : ids[i]? = some p) (ht : m.ths[i]? = some t) (ha : 0 ≤ a ∧ a < 16) (hg : t.reg a = 0) :
    Calls Try.prog 71 #[.pointer (some ⟨B, 0, none⟩), .pointer (some ⟨p.1, 0, none⟩), .int .i64 who, .agg (insC ⟨7, op, d, a, b, n, to⟩).toArray] w fun e w' => e = .returned (.tuple #[leakV ⟨3, who, 0, 1⟩, .bool true]) ∧
      MR w' R B ids { m with ths := m.ths.set i ({ t with place := to }) } ∧ Fr R w w' := by
  have hpR := (h.inT p (List.mem_of_getElem? hp))
  obtain ⟨g0, ⟨ca, cc, hb, _⟩, _⟩ := h.th hp ht
  have b2 := th2 hb
  have f2 := hb.free 2
  have hlt := hb.lt
  have HB := hid hb
  have HR := hid h
  obtain ⟨d4, hd4, hd5⟩ := unLK
  obtain ⟨x, rfl⟩ : ∃ z : Nat, a = z := ⟨Int.toNat a, by omega⟩
  have hz_x : x < 16 := by omega
  have b_x := thr hb g0 hz_x
  have f_x := hb.free (3 + x)
  obtain ⟨v_x, hv_x⟩ : ∃ v, v = t.regs.getD x 0 := ⟨_, rfl⟩
  rw [← hv_x] at b_x
  have HV_x := hid (show t.reg ((x : Nat) : Int) = v_x from hv_x.symm)
  clear hv_x
  (try simp only [HV_x.out])
  have n1_x : ¬ (3 + x = 2) := by omega
  have n2_x : ¬ (2 = 3 + x) := by omega
  have hgt : v_x = 0 := HV_x.out.symm.trans hg
  rw [hgt] at b_x
  clear hb h
  dsimp only [insC] at *
  go_enter Try.func71, Try.ntmps71
  go_wp2_with (first | ((with_reducible apply wpList_storeA (b := w.heap.size + 1) (C := #[.int .i64 0, .int .i64 0, .int .i64 0, .int .i64 0]) (T := 37)); (case zsx => rfl); (case zsy => rfl); (case zsn => rfl); (case zsi => exact szLK); (case zs1 => rfl); (case zsb => ((repeat' (first | with_reducible apply Blk.drew | with_reducible apply Blk.drewN | (with_reducible refine Blk.new' ?_) | (with_reducible refine Blk.set_ne ?_ ?_ _))); all_goals (first | (simp; done) | (simp; omega) | omega))); intro w9 hb9 hf9 hs9; have HB9 := hid hb9; have HF9 := hid hf9; have HSZ9 := hid hs9; clear hb9 hf9 hs9) | still_step | (with_reducible first | refine wpStill_nil ?_ | refine Flow.Both.mk ?_ ?_ | exact True.intro) | (with_reducible refine Flow.same_mk rfl rfl rfl ?_; go_simp; done) | (with_reducible exact Flow.same_un rfl rfl rfl) | (refine Flow.region_still mixed ?hB ?_; (case hB => decide +kernel)))
  have hres := fun (C : Array Value) (hC : C.size = 4) (tmps : Array Value) (w : World) (b : Nat) (ha : tmps.getD 8 undef = .pointer (some ⟨b, 0, none⟩)) (hb : Blk w b C 37) => results_ct (P := Try.prog) Try.results71 ha hb hd4 hd5 (by rw [hC]; exact szLK)
  refine bodyPost_ret (hres _ rfl _ _ _ rfl HB9.out) rfl ?_
  refine ⟨rfl, MR.fr ⟨Q, blkTh HR.out hp ht (t1 := { t with place := to }) ?tfr HB.out ?tblk rfl rfl ?tlen⟩ HF9.out ?tR, ?tend⟩
  case tfr => (with_reducible repeat' (first | exact Fr.refl _ _ | apply Fr.alloc | apply Fr.drew | apply Fr.drewN | refine Fr.setCell ?_ ?_ _)) <;> exact fun _ => rfl
  case tblk => (repeat (with_reducible apply Blk.drew)); exact (((setPlace HB.out _).alloc _).alloc _)
  case tlen => simp [Th.step, Th.set, g0]
  case tR => intro k hk e; have := HR.out.lt k hk; omega
  case tend => exact (Fr.mono (S := fun k => k = p.1) (S2 := R) (by (with_reducible repeat' (first | exact Fr.refl _ _ | apply Fr.alloc | apply Fr.drew | apply Fr.drewN | refine Fr.setCell ?_ ?_ _)) <;> exact fun _ => rfl) (fun k _ e => by rw [e]; exact hpR.1)).trans HF9.out (fun k hk e => by omega)
theorem zero_no (B i : Nat) (R : Nat → Prop) (ids : List (Nat × Nat)) (Q : Nat → Nat → Prop) (m : M) (p : Nat × Nat) (t : Th) (op d a b n to who : Int) (w : World) (h : MRep w B R ids Q m) (hp : ids[i]? = some p) (ht : m.ths[i]? = some t) (ha : 0 ≤ a ∧ a < 16) (hg : t.reg a ≠ 0) :
    Calls Try.prog 71 #[.pointer (some ⟨B, 0, none⟩), .pointer (some ⟨p.1, 0, none⟩), .int .i64 who, .agg (insC ⟨7, op, d, a, b, n, to⟩).toArray] w fun e w' => e = .returned (.tuple #[leakV ⟨3, who, 0, 0⟩, .bool true]) ∧
      MR w' R B ids { m with ths := m.ths.set i (t.step) } ∧ Fr R w w' := by
  have hpR := (h.inT p (List.mem_of_getElem? hp))
  obtain ⟨g0, ⟨ca, cc, hb, _⟩, _⟩ := h.th hp ht
  have b2 := th2 hb
  have f2 := hb.free 2
  have hlt := hb.lt
  have HB := hid hb
  have HR := hid h
  obtain ⟨d4, hd4, hd5⟩ := unLK
  obtain ⟨x, rfl⟩ : ∃ z : Nat, a = z := ⟨Int.toNat a, by omega⟩
  have hz_x : x < 16 := by omega
  have b_x := thr hb g0 hz_x
  have f_x := hb.free (3 + x)
  obtain ⟨v_x, hv_x⟩ : ∃ v, v = t.regs.getD x 0 := ⟨_, rfl⟩
  rw [← hv_x] at b_x
  have HV_x := hid (show t.reg ((x : Nat) : Int) = v_x from hv_x.symm)
  clear hv_x
  (try simp only [HV_x.out])
  have n1_x : ¬ (3 + x = 2) := by omega
  have n2_x : ¬ (2 = 3 + x) := by omega
  have hgt2 : ¬ (v_x = 0) := fun e => hg (HV_x.out.trans e)
  have hgt : (v_x == 0) = false := by simpa using hgt2
  clear hb h
  dsimp only [insC] at *
  go_enter Try.func71, Try.ntmps71
  go_wp2_with (first | ((with_reducible apply wpList_storeA (b := w.heap.size + 1) (C := #[.int .i64 0, .int .i64 0, .int .i64 0, .int .i64 0]) (T := 37)); (case zsx => rfl); (case zsy => rfl); (case zsn => rfl); (case zsi => exact szLK); (case zs1 => rfl); (case zsb => ((repeat' (first | with_reducible apply Blk.drew | with_reducible apply Blk.drewN | (with_reducible refine Blk.new' ?_) | (with_reducible refine Blk.set_ne ?_ ?_ _))); all_goals (first | (simp; done) | (simp; omega) | omega))); intro w9 hb9 hf9 hs9; have HB9 := hid hb9; have HF9 := hid hf9; have HSZ9 := hid hs9; clear hb9 hf9 hs9) | still_step | (with_reducible first | refine wpStill_nil ?_ | refine Flow.Both.mk ?_ ?_ | exact True.intro) | (with_reducible refine Flow.same_mk rfl rfl rfl ?_; go_simp; done) | (with_reducible exact Flow.same_un rfl rfl rfl) | (refine Flow.region_still mixed ?hB ?_; (case hB => decide +kernel)))
  have hres := fun (C : Array Value) (hC : C.size = 4) (tmps : Array Value) (w : World) (b : Nat) (ha : tmps.getD 8 undef = .pointer (some ⟨b, 0, none⟩)) (hb : Blk w b C 37) => results_ct (P := Try.prog) Try.results71 ha hb hd4 hd5 (by rw [hC]; exact szLK)
  refine bodyPost_ret (hres _ rfl _ _ _ rfl HB9.out) rfl ?_
  refine ⟨rfl, MR.fr ⟨Q, blkTh HR.out hp ht (t1 := t.step) ?tfr HB.out ?tblk rfl rfl ?tlen⟩ HF9.out ?tR, ?tend⟩
  case tfr => (with_reducible repeat' (first | exact Fr.refl _ _ | apply Fr.alloc | apply Fr.drew | apply Fr.drewN | refine Fr.setCell ?_ ?_ _)) <;> exact fun _ => rfl
  case tblk => (repeat (with_reducible apply Blk.drew)); exact (((setPlace HB.out _).alloc _).alloc _)
  case tlen => simp [Th.step, Th.set, g0]
  case tR => intro k hk e; have := HR.out.lt k hk; omega
  case tend => exact (Fr.mono (S := fun k => k = p.1) (S2 := R) (by (with_reducible repeat' (first | exact Fr.refl _ _ | apply Fr.alloc | apply Fr.drew | apply Fr.drewN | refine Fr.setCell ?_ ?_ _)) <;> exact fun _ => rfl) (fun k _ e => by rw [e]; exact hpR.1)).trans HF9.out (fun k hk e => by omega)
end Go.Proofs.Ytbfeopakmjcapaa.Tso
