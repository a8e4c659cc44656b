/-
  The example of chapter 28: it is as the document says.
-/
import Derived.Test.YtfekjgkhagcjgaaTsoG
namespace Go.Proofs.Ytfekjgkhagcjgaa.Tso
open Go.RowKit Go.Proofs.Ytfekjgkhagcjgaa.Seq
attribute [local irreducible] wpStill wpList Calls CallsIn

def bothC (own other : Int) : List Ins := [⟨0, 0, 1, 0, 0, 1, 0⟩, ⟨5, 0, 0, -1, 1, own, 0⟩, ⟨4, 0, 0, -1, 0, other, 0⟩, ⟨11, 0, 0, 0, 0, 0, 0⟩, ⟨13, 0, 0, 0, 0, 0, 0⟩]

theorem both_is (own other : Int) (w : World) :
    Calls Try.prog 25 #[.int .i64 own, .int .i64 other] w fun e w' => e = .returned (.slice (some ⟨w.heap.size, 0, none⟩) 5 5) ∧ Blk w' w.heap.size (codeC (bothC own other)).toArray 41 ∧ Fr (fun _ => False) w w' := by
  go_enter Try.func25, Try.ntmps25
  go_wp2_with (first | fail | still_step | (with_reducible refine wpStill_nil ?_) | (with_reducible refine Flow.Both.mk ?_ ?_) | (with_reducible exact True.intro) | (with_reducible refine Flow.same_mk rfl rfl rfl ?_; go_simp; done) | (with_reducible exact Flow.same_un rfl rfl rfl) | (refine Flow.region_still mixed ?hB ?_; (case hB => decide +kernel)))
  go_ret
  exact ⟨rfl, Blk.new w _ _, by (repeat' (first | with_reducible exact Fr.refl _ _ | with_reducible apply Fr.alloc | with_reducible apply Fr.drew | with_reducible apply Fr.drewN | (with_reducible refine Fr.setCell ?_ ?_ _)))⟩

def m0 : M := start [bothC 0 1, bothC 1 0] 2 [] 0 1
def rounds : Nat → M
  | 0 => m0
  | k + 1 => (((rounds k).step 0).1.step 1).1
def m4 : M := rounds 4
def m5 : M := (m4.flush 0).1
theorem m0_good : GoodM m0 := start_good (fun c hc => by
  simp at hc
  rcases hc with rfl | rfl <;> intro i hi <;> simp [bothC] at hi <;> rcases hi with rfl | rfl | rfl | rfl | rfl <;> simp [insOk, bothC])
theorem rounds_good : ∀ k, GoodM (rounds k) ∧ (rounds k).events.length ≤ 2 * k
  | 0 => ⟨m0_good, by simp [rounds, m0, start]⟩
  | k + 1 => by
    obtain ⟨h1, h2⟩ := rounds_good k
    obtain ⟨a1, a2, _⟩ := step_good h1 0
    obtain ⟨b1, b2, _⟩ := step_good a1 1
    exact ⟨b1, by show (((rounds k).step 0).1.step 1).1.events.length ≤ _; omega⟩
theorem fl4 : (m4.flush 0).2 = (⟨4, 0, 0, 0⟩, true) := by decide +kernel
theorem ev5 : m5.events = [⟨0, 0, 0⟩, ⟨0, 1, 0⟩] := by decide +kernel
theorem th5 : m5.th 1 = some ⟨bothC 1 0, 4, [0, 1, 0, 0, 0, 0, 0, 0, 0, 0, 0, 0, 0, 0, 0, 0], [(1, 1)], false⟩ := by decide +kernel
theorem me5 : m5.mem = [1, 0] := by decide +kernel
theorem ow5 : m5.ownerOf 0 = -1 := by decide +kernel

theorem zTHR : (Try.prog.info? 71).map (fun i => (i.zero, i.size)) = some (some (.agg (standV noTh none 0).toArray), 19) := by kernel_rfl

set_option linter.unusedSimpArgs false in
set_option maxHeartbeats 4000000 in
set_option maxRecDepth 100000 in
theorem awake_true (w : World) : Calls Try.prog 7 #[] w fun e w' => e = .returned (.bool true) ∧ Fr (fun _ => False) w w' := by
  go_enter Try.func7, Try.ntmps7
  go_wp2_with (first | fail | still_step | (with_reducible refine wpStill_nil ?_) | (with_reducible refine Flow.Both.mk ?_ ?_) | (with_reducible exact True.intro) | (with_reducible refine Flow.same_mk rfl rfl rfl ?_; go_simp; done) | (with_reducible exact Flow.same_un rfl rfl rfl) | (refine Flow.region_still mixed ?hB ?_; (case hB => decide +kernel)))
  go_at_call 25
  refine (both_is 0 1 _).mono ?_
  rintro e w1 ⟨rfl, hb1, hf1⟩
  have HB1 := hid hb1
  have HF1 := hid hf1
  have hl1 := hb1.lt
  clear hb1 hf1
  go_wp2_with (first | fail | still_step | (with_reducible refine wpStill_nil ?_) | (with_reducible refine Flow.Both.mk ?_ ?_) | (with_reducible exact True.intro) | (with_reducible refine Flow.same_mk rfl rfl rfl ?_; go_simp; done) | (with_reducible exact Flow.same_un rfl rfl rfl) | (refine Flow.region_still mixed ?hB ?_; (case hB => decide +kernel)))
  go_at_call 25
  refine (both_is 1 0 _).mono ?_
  rintro e w2 ⟨rfl, hb2, hf2⟩
  have HB2 := hid hb2
  have HB12 := hid (HB1.out.fr hf2 (fun h => h))
  have HF2 := hid (HF1.out.trans hf2 (fun _ _ h => h))
  have hl2 := hb2.lt
  clear hb2 hf2 HB1 HF1
  go_wp2_with (first | fail | still_step | (with_reducible refine wpStill_nil ?_) | (with_reducible refine Flow.Both.mk ?_ ?_) | (with_reducible exact True.intro) | (with_reducible refine Flow.same_mk rfl rfl rfl ?_; go_simp; done) | (with_reducible exact Flow.same_un rfl rfl rfl) | (refine Flow.region_still mixed ?hB ?_; (case hB => decide +kernel)))
  go_at_call 9
  obtain ⟨w3, hw3, hf3⟩ : ∃ w3, w3 = w2.alloc (.cells #[.slice (some ⟨w.heap.size, 0, none⟩) 5 5, .slice (some ⟨w1.heap.size, 0, none⟩) 5 5] 77) ∧ Fr (fun _ => False) w2 w3 := ⟨_, rfl, by (repeat' (first | with_reducible exact Fr.refl _ _ | with_reducible apply Fr.alloc | with_reducible apply Fr.drew | with_reducible apply Fr.drewN | (with_reducible refine Fr.setCell ?_ ?_ _)))⟩
  have hbr : Blk w3 w2.heap.size #[.slice (some ⟨w.heap.size, 0, none⟩) 5 5, .slice (some ⟨w1.heap.size, 0, none⟩) 5 5] 77 := by rw [hw3]; exact Blk.new w2 _ _
  rw [← hw3]
  refine (new_is (fun _ => True) (fun _ => True) (some ⟨w2.heap.size, 0, none⟩) none none 2 0 0 0 [((some ⟨w.heap.size, 0, none⟩, 5), bothC 0 1), ((some ⟨w1.heap.size, 0, none⟩, 5), bothC 1 0)] 2 0 1 [] w3 ?hc ⟨by simp [ints], .inl rfl⟩ (fun _ => rfl) (by simp) (by simp) ?hi (by omega) (by omega) (by omega)).mono ?hk
  case hc =>
    refine ⟨Vw.of_blk hbr trivial rfl, fun q hq => ?_⟩
    simp at hq
    rcases hq with rfl | rfl
    · exact ⟨Vw.of_blk (C := (codeC (bothC 0 1)).toArray) (HB12.out.fr hf3 (fun h => h)) trivial rfl, fun h => by cases h⟩
    · exact ⟨Vw.of_blk (C := (codeC (bothC 1 0)).toArray) (HB2.out.fr hf3 (fun h => h)) trivial rfl, fun h => by cases h⟩
  case hi =>
    intro q hq
    simp at hq
    rcases hq with rfl | rfl <;> simp [bothC]
  case hk =>
    rintro e w4 ⟨B, ids, rfl, hm, hf4⟩
    have HM0 := hid (show MR w4 _ B ids m0 from hm)
    have HF4 := hid ((HF2.out.trans hf3 (fun _ _ h => h)).trans hf4 (fun _ _ h => h))
    have hs3 : w.heap.size ≤ w3.heap.size := by have := (HF2.out.trans hf3 (fun _ _ h => h)).size; omega
    clear hm hf4 hbr hw3 hf3 HB12 HB2 HF2
    go_wp2_with (first | fail | still_step | (with_reducible refine wpStill_nil ?_) | (with_reducible refine Flow.Both.mk ?_ ?_) | (with_reducible exact True.intro) | (with_reducible refine Flow.same_mk rfl rfl rfl ?_; go_simp; done) | (with_reducible exact Flow.same_un rfl rfl rfl) | (refine Flow.region_still mixed ?hB ?_; (case hB => decide +kernel)))
    go_loopw [2] (fun i wr => ∃ (k : Nat) (R : Nat → Prop), k ≤ 4 ∧ i = .int .i64 k ∧ MR wr R B ids (rounds k) ∧ (∀ z, R z → w.heap.size ≤ z) ∧ Fr (fun _ => False) w wr) (fun i _ => 4 - (intOf i).toNat)
    case atStart => exact ⟨0, _, by omega, rfl, HM0.out, fun z hz => by have := hz.1; omega, HF4.out⟩
    case round =>
      obtain ⟨k, R, hk, rfl, hm, hR, hf⟩ := hrel
      have HM := hid hm
      have HR := hid hR
      have HF := hid hf
      clear hm hR hf HM0 HF4
      by_cases hlt : k < 4
      · obtain ⟨g1, g2⟩ := rounds_good k
        have G1 := hid g1
        have hk2 : (rounds (k + 1)) = (((rounds k).step 0).1.step 1).1 := rfl
        have HK2 := hid hk2
        generalize rounds k = mk at *
        obtain ⟨a1, a2, _⟩ := step_good g1 0
        have A1 := hid a1
        clear g1 a1 hk2
        go_wp2_with (first | fail | still_step | (with_reducible refine wpStill_nil ?_) | (with_reducible refine Flow.Both.mk ?_ ?_) | (with_reducible exact True.intro) | (with_reducible refine Flow.same_mk rfl rfl rfl ?_; go_simp; done) | (with_reducible exact Flow.same_un rfl rfl rfl) | (refine Flow.region_still mixed ?hB ?_; (case hB => decide +kernel)))
        go_at_call 16
        refine (step_is B R ids mk 0 _ HM.out G1.out (by unfold evRoom; omega)).mono ?_
        rintro e w5 ⟨rfl, R5, hm5, hv5⟩
        have HM5 := hid hm5
        have HV5 := hid hv5
        clear hm5 hv5
        go_wp2_with (first | fail | still_step | (with_reducible refine wpStill_nil ?_) | (with_reducible refine Flow.Both.mk ?_ ?_) | (with_reducible exact True.intro) | (with_reducible refine Flow.same_mk rfl rfl rfl ?_; go_simp; done) | (with_reducible exact Flow.same_un rfl rfl rfl) | (refine Flow.region_still mixed ?hB ?_; (case hB => decide +kernel)))
        go_at_call 16
        refine (step_is B R5 ids (mk.step 0).1 1 _ HM5.out A1.out (by unfold evRoom; omega)).mono ?_
        rintro e w6 ⟨rfl, R6, hm6, hv6⟩
        have HM6 := hid hm6
        have HV6 := hid (HV5.out.trans hv6)
        clear hm6 hv6
        go_wp2_with (first | fail | still_step | (with_reducible refine wpStill_nil ?_) | (with_reducible refine Flow.Both.mk ?_ ?_) | (with_reducible exact True.intro) | (with_reducible refine Flow.same_mk rfl rfl rfl ?_; go_simp; done) | (with_reducible exact Flow.same_un rfl rfl rfl) | (refine Flow.region_still mixed ?hB ?_; (case hB => decide +kernel)))
        go_roundw
        case rel =>
          refine ⟨k + 1, R6, by omega, by go_num, by rw [HK2.out]; exact HM6.out, fun z hz => ?_, HF.out.trans HV6.out.2.2 (fun z hz h => by have := HR.out z h; omega)⟩
          rcases HV6.out.2.1 z hz with h | h
          · exact HR.out z h
          · have := HF.out.size; omega
        case measure => simp [intOf]; omega
      · obtain rfl : k = 4 := by omega
        have HM4 := hid (show MR wr R B ids m4 from HM.out)
        clear HM
        go_wp2_with (first | fail | still_step | (with_reducible refine wpStill_nil ?_) | (with_reducible refine Flow.Both.mk ?_ ?_) | (with_reducible exact True.intro) | (with_reducible refine Flow.same_mk rfl rfl rfl ?_; go_simp; done) | (with_reducible exact Flow.same_un rfl rfl rfl) | (refine Flow.region_still mixed ?hB ?_; (case hB => decide +kernel)))
        go_at_call 13
        refine (flush_is B R ids m4 0 _ HM4.out).mono ?_
        rintro e w5 ⟨rfl, R5, hm5, hv5⟩
        rw [show (m4.flush 0).2.1 = ⟨4, 0, 0, 0⟩ from congrArg Prod.fst fl4, show (m4.flush 0).2.2 = true from congrArg Prod.snd fl4]
        dsimp only [leakV]
        have HM5 := hid (show MR w5 R5 B ids m5 from hm5)
        have HF5 := hid (HF.out.trans hv5.2.2 (fun z hz h => by have := HR.out z h; omega))
        have HR5 := hid (show ∀ z, R5 z → w.heap.size ≤ z ∧ z < w5.heap.size from fun z hz => ⟨by
          rcases hv5.2.1 z hz with h | h
          · exact HR.out z h
          · have := HF.out.size; omega, hm5.lt z hz⟩)
        clear hm5 hv5 HM4
        have HLK := hid (Blk.new w5 #[.int .i64 4, .int .i64 0, .int .i64 0, .int .i64 0] 46)
        go_wp2_with (first | fail | still_step | (with_reducible refine wpStill_nil ?_) | (with_reducible refine Flow.Both.mk ?_ ?_) | (with_reducible exact True.intro) | (with_reducible refine Flow.same_mk rfl rfl rfl ?_; go_simp; done) | (with_reducible exact Flow.same_un rfl rfl rfl) | (refine Flow.region_still mixed ?hB ?_; (case hB => decide +kernel)))
        go_at_call 21
        obtain ⟨w6, hw6, hf6⟩ : ∃ w6, w6 = w5.alloc (.cells #[.int .i64 4, .int .i64 0, .int .i64 0, .int .i64 0] 46) ∧ Fr (fun _ => False) w5 w6 := ⟨_, rfl, by (repeat' (first | with_reducible exact Fr.refl _ _ | with_reducible apply Fr.alloc | with_reducible apply Fr.drew | with_reducible apply Fr.drewN | (with_reducible refine Fr.setCell ?_ ?_ _)))⟩
        rw [← hw6] at HLK
        rw [← hw6]
        refine (events_is B R5 ids m5 w6 (HM5.out.fr hf6 (fun _ _ h => h)) (by unfold evRoom; rw [ev5]; decide)).mono ?_
        rintro e w7 ⟨ea, ec, rfl, ho7, hf7⟩
        rw [ev5] at ho7
        rw [show m5.events.length = 2 by rw [ev5]; rfl]
        have HM7 := hid ((HM5.out.fr hf6 (fun _ _ h => h)).fr hf7 (fun _ _ h => h))
        have HF7 := hid ((HF5.out.trans hf6 (fun _ _ h => h)).trans hf7 (fun _ _ h => h))
        have HLK7 := hid (HLK.out.fr hf7 (fun h => h))
        obtain ⟨er, eo, rfl, _, hce⟩ := ho7.vw.cell (by simp [evC])
        have e02 : w7.cell? ⟨er, eo + 2, none⟩ = some (.int .i64 0) := hce 2 _ rfl
        have e14 : w7.cell? ⟨er, eo + 4, none⟩ = some (.int .i64 1) := hce 4 _ rfl
        have e15 : w7.cell? ⟨er, eo + 5, none⟩ = some (.int .i64 0) := hce 5 _ rfl
        clear ho7 hf7 hf6 hw6 HLK HM5 HF5 hce
        go_wp2_with (first | fail | still_step | (with_reducible refine wpStill_nil ?_) | (with_reducible refine Flow.Both.mk ?_ ?_) | (with_reducible exact True.intro) | (with_reducible refine Flow.same_mk rfl rfl rfl ?_; go_simp; done) | (with_reducible exact Flow.same_un rfl rfl rfl) | (refine Flow.region_still mixed ?hB ?_; (case hB => decide +kernel)))
        go_at_call 23
        refine (thread_is B R5 ids m5 1 _ HM7.out).mono ?_
        rintro e w8 ⟨ta, tc, rfl, ho8, hf8⟩
        rw [th5] at ho8
        rw [th5]
        have hvl : (standV ((some (⟨bothC 1 0, 4, [0, 1, 0, 0, 0, 0, 0, 0, 0, 0, 0, 0, 0, 0, 0, 0], [(1, 1)], false⟩ : Th)).getD noTh) ta tc).toArray = #[.int .i64 4, .int .i64 0, .int .i64 1, .int .i64 0, .int .i64 0, .int .i64 0, .int .i64 0, .int .i64 0, .int .i64 0, .int .i64 0, .int .i64 0, .int .i64 0, .int .i64 0, .int .i64 0, .int .i64 0, .int .i64 0, .int .i64 0, .slice ta 1 tc, .bool false] := rfl
        rw [hvl]
        obtain ⟨vl, hve⟩ : ∃ vl, vl = #[Value.int .i64 4, .int .i64 0, .int .i64 1, .int .i64 0, .int .i64 0, .int .i64 0, .int .i64 0, .int .i64 0, .int .i64 0, .int .i64 0, .int .i64 0, .int .i64 0, .int .i64 0, .int .i64 0, .int .i64 0, .int .i64 0, .int .i64 0, .slice ta 1 tc, .bool false] := ⟨_, rfl⟩
        rw [← hve]
        have hvs : vl.size = 19 := by rw [hve]; rfl
        have hv1 : vl.toList.all (·.oneCell') = true := by rw [hve]; rfl
        have HVE := hid hve
        have HM8 := hid (HM7.out.fr hf8 (fun _ _ h => h))
        have HF8 := hid (HF7.out.trans hf8 (fun _ _ h => h))
        have HLK8 := hid (HLK7.out.fr hf8 (fun h => h))
        have e02_ := Fr.cell hf8 e02 (fun h => h)
        clear e02
        have e02 := e02_
        clear e02_
        have e14_ := Fr.cell hf8 e14 (fun h => h)
        clear e14
        have e14 := e14_
        clear e14_
        have e15_ := Fr.cell hf8 e15 (fun h => h)
        clear e15
        have e15 := e15_
        clear e15_
        clear ho8 hf8 hvl hve HM7 HF7 HLK7
        go_wp2_with (first | ((with_reducible apply wpList_allocA (ty := 71) (standV noTh none 0).toArray); (case zai => exact zTHR); (case zac => rfl); intro wA hbA hfA hsA; have HBA := hid hbA; have HFA := hid hfA; clear hbA hfA hsA) | ((with_reducible apply wpList_storeA (b := w8.heap.size) (C := (standV noTh none 0).toArray) (cells := vl) (T := 71)); (case zsx => rfl); (case zsy => rfl); (case zsn => exact hvs); (case zsi => rw [hvs]; exact szTHR); (case zs1 => exact hv1); (case zsb => exact HBA.out); intro wS hbS hfS hsS; have HBS := hid hbS; have HFS := hid hfS; clear hbS hfS hsS) | still_step | (with_reducible refine wpStill_nil ?_) | (with_reducible refine Flow.Both.mk ?_ ?_) | (with_reducible exact True.intro) | (with_reducible refine Flow.same_mk rfl rfl rfl ?_; go_simp; done) | (with_reducible exact Flow.same_un rfl rfl rfl) | (refine Flow.region_still mixed ?hB ?_; (case hB => decide +kernel)))
        go_at_call 22
        have hfs : Fr (fun _ => False) w8 wS := HFA.out.trans HFS.out (fun z hz h => by omega)
        refine (memory_is B R5 ids m5 wS (HM8.out.fr hfs (fun _ _ h => h)) (by rw [me5]; decide)).mono ?_
        rintro e w9 ⟨ma, mc, rfl, ho9, hf9⟩
        rw [me5] at ho9
        rw [show m5.mem.length = 2 by rw [me5]; rfl]
        have hf89 := hfs.trans hf9 (fun _ _ h => h)
        have HM9 := hid ((HM8.out.fr hfs (fun _ _ h => h)).fr hf9 (fun _ _ h => h))
        have HF9 := hid (HF8.out.trans hf89 (fun _ _ h => h))
        have hlk := HLK8.out.fr hf89 (fun h => h)
        have hlt := HBS.out.fr hf9 (fun h => h)
        have HLK9 := hid hlk
        have e02_ := Fr.cell hf89 e02 (fun h => h)
        clear e02
        have e02 := e02_
        clear e02_
        have e14_ := Fr.cell hf89 e14 (fun h => h)
        clear e14
        have e14 := e14_
        clear e14_
        have e15_ := Fr.cell hf89 e15 (fun h => h)
        clear e15
        have e15 := e15_
        clear e15_
        obtain ⟨mr, mo, rfl, _, hme⟩ := ho9.vw.cell (by simp [ints])
        have m0 : w9.cell? ⟨mr, mo, none⟩ = some (.int .i64 1) := hme 0 _ rfl
        have m1 : w9.cell? ⟨mr, mo + 1, none⟩ = some (.int .i64 0) := hme 1 _ rfl
        have l0 : w9.cell? ⟨w5.heap.size, 0, none⟩ = some (.int .i64 4) := (hlk.cell 0).trans rfl
        have l1 : w9.cell? ⟨w5.heap.size, 1, none⟩ = some (.int .i64 0) := (hlk.cell 1).trans rfl
        have l2 : w9.cell? ⟨w5.heap.size, 2, none⟩ = some (.int .i64 0) := (hlk.cell 2).trans rfl
        have l3 : w9.cell? ⟨w5.heap.size, 3, none⟩ = some (.int .i64 0) := (hlk.cell 3).trans rfl
        have t0 : w9.cell? ⟨w8.heap.size, 0, none⟩ = some (.int .i64 4) := (hlt.cell 0).trans (by rw [HVE.out]; rfl)
        have t17 : w9.cell? ⟨w8.heap.size, 17, none⟩ = some (.slice ta 1 tc) := (hlt.cell 17).trans (by rw [HVE.out]; rfl)
        clear ho9 hf9 hme hf89 hfs HM8 HF8 HLK8 hlk hlt HBS HBA HFA HFS HVE hvs hv1
        go_wp2_with (first | fail | still_step | (with_reducible refine wpStill_nil ?_) | (with_reducible refine Flow.Both.mk ?_ ?_) | (with_reducible exact True.intro) | (with_reducible refine Flow.same_mk rfl rfl rfl ?_; go_simp; done) | (with_reducible exact Flow.same_un rfl rfl rfl) | (refine Flow.region_still mixed ?hB ?_; (case hB => decide +kernel)))
        go_at_call 26
        refine (owner_is B R5 ids m5 0 w9 HM9.out).mono ?_
        rintro e w10 ⟨rfl, hf10⟩
        rw [ow5]
        have HF10 := hid (HF9.out.trans hf10 (fun _ _ h => h))
        clear hf10 e02 e14 e15 m0 m1 l0 l1 l2 l3 t0 t17
        go_wp2_with (first | fail | still_step | (with_reducible refine wpStill_nil ?_) | (with_reducible refine Flow.Both.mk ?_ ?_) | (with_reducible exact True.intro) | (with_reducible refine Flow.same_mk rfl rfl rfl ?_; go_simp; done) | (with_reducible exact Flow.same_un rfl rfl rfl) | (refine Flow.region_still mixed ?hB ?_; (case hB => decide +kernel)))
        go_ret
        exact ⟨rfl, HF10.out⟩
end Go.Proofs.Ytfekjgkhagcjgaa.Tso
