/-
  The example of chapter 29: it is as the document says.
-/
import Derived.Test.YtbfeopakmjcapaaSpRow
set_option linter.unusedVariables false
namespace Go.Proofs.Ytbfeopakmjcapaa.Sp
open Go.RowKit Go.Proofs.Ytbfeopakmjcapaa.Seq Go.Proofs.Ytbfeopakmjcapaa.Tso
attribute [local irreducible] wpStill wpList Calls CallsIn

def exC : List Ins := [⟨7, 0, 0, 0, 0, 0, 2⟩, ⟨4, 0, 1, -1, 0, 1, 0⟩, ⟨11, 0, 0, 1, 0, 0, 0⟩, ⟨13, 0, 0, 0, 0, 0, 0⟩]
def x0 : SM := startS [exC] 2 [4, 5] 0 1 2
def x1 : SM := (x0.doIt 2 0).1
def x2 : SM := (x1.doIt 0 0).1
def x3 : SM := (x2.doIt 0 0).1
def x4 : SM := (x3.doIt 4 0).1
def x5 : SM := (x4.doIt 0 0).1
def x6 : SM := (x5.doIt 0 0).1
theorem x0_fits : Fits x0 0 := start_fits (fun c hc => by
  simp at hc
  subst hc
  intro i hi
  simp [exC] at hi
  rcases hi with rfl | rfl | rfl | rfl <;> simp [insOk, exC]) (by omega) (by omega) (by omega)
theorem x1_fits : Fits x1 1 := x0_fits.doIt 2 0
theorem x2_fits : Fits x2 2 := x1_fits.doIt 0 0
theorem x3_fits : Fits x3 3 := x2_fits.doIt 0 0
theorem x4_fits : Fits x4 4 := x3_fits.doIt 4 0
theorem x5_fits : Fits x5 5 := x4_fits.doIt 0 0
theorem x6_fits : Fits x6 6 := x5_fits.doIt 0 0
theorem d1 : (x0.doIt 2 0).2 = (⟨3, 0, 0, 0⟩, true) := by decide +kernel
theorem d2 : (x1.doIt 0 0).2 = (⟨1, 0, 0, 1⟩, true) := by decide +kernel
theorem d3 : (x2.doIt 0 0).2 = (none_, false) := by decide +kernel
theorem d4 : (x3.doIt 4 0).2 = (⟨6, 0, 0, 0⟩, true) := by decide +kernel
theorem g3 : x3.count 0 = 1 := by decide +kernel
theorem t3 : (x3.x.th 0).getD noTh = ⟨exC, 2, [0, 5, 0, 0, 0, 0, 0, 0, 0, 0, 0, 0, 0, 0, 0, 0], [], false⟩ := by decide +kernel
theorem s3 : x3.sure 0 = ⟨exC, 0, [0, 0, 0, 0, 0, 0, 0, 0, 0, 0, 0, 0, 0, 0, 0, 0], [], false⟩ := by decide +kernel
theorem e6 : x6.x.events = [⟨0, 0, 0⟩] := by decide +kernel
theorem o6 : x6.x.ownerOf 0 = -1 := by decide +kernel
theorem m6 : x6.x.mem = [4, 5] := by decide +kernel

set_option linter.unusedSimpArgs false in
set_option maxHeartbeats 4000000 in
set_option maxRecDepth 100000 in
theorem awake29_true (w : World) : Calls Try.prog 10 #[] w fun e w' => e = .returned (.bool true) ∧ Fr (fun _ => False) w w' := by
  go_enter Try.func10, Try.ntmps10
  go_wp2_with (first | fail | still_step | (with_reducible refine wpStill_nil ?_) | (with_reducible refine Flow.Both.mk ?_ ?_) | (with_reducible exact True.intro) | (with_reducible refine Flow.same_mk rfl rfl rfl ?_; go_simp; done) | (with_reducible exact Flow.same_un rfl rfl rfl) | (refine Flow.region_still mixed ?hB ?_; (case hB => decide +kernel)))
  go_at_call 12
  refine Calls.named fun wc hwc => ?_
  have hfc : Fr (fun _ => False) w wc := by rw [hwc]; (repeat' (first | with_reducible exact Fr.refl _ _ | with_reducible apply Fr.alloc | with_reducible apply Fr.drew | with_reducible apply Fr.drewN | (with_reducible refine Fr.setCell ?_ ?_ _)))
  have hbc : Blk wc w.heap.size (codeC exC).toArray 57 := by rw [hwc]; (repeat (first | exact Blk.new w _ _ | with_reducible apply Blk.drew | with_reducible apply Blk.alloc))
  have hbt : Blk wc (w.heap.size + 1) #[.slice (some ⟨w.heap.size, 0, none⟩) 4 4] 59 := by rw [hwc]; (repeat (first | exact Blk.new' (by simp) | with_reducible apply Blk.drew | with_reducible apply Blk.alloc))
  have hbm : Blk wc (w.heap.size + 2) #[.int .i64 4, .int .i64 5] 2 := by rw [hwc]; (repeat (first | exact Blk.new' (by simp) | with_reducible apply Blk.drew | with_reducible apply Blk.alloc))
  clear hwc
  refine (snew_is (fun _ => True) (fun _ => True) (some ⟨w.heap.size + 1, 0, none⟩) (some ⟨w.heap.size + 2, 0, none⟩) none 1 2 0 0 [((some ⟨w.heap.size, 0, none⟩, 4), exC)] 2 0 1 2 [4, 5] wc ?hc ?hm (fun h => by cases h) (by simp) (by simp) ?hi (by omega) (by omega) (by omega) (by omega)).mono ?hk
  case hc =>
    refine ⟨Vw.of_blk hbt trivial rfl, fun q hq => ?_⟩
    simp at hq
    subst hq
    exact ⟨Vw.of_blk (C := (codeC exC).toArray) hbc trivial rfl, fun h => by cases h⟩
  case hm => exact Vw.of_blk hbm trivial rfl
  case hi =>
    intro q hq
    simp at hq
    subst hq
    simp [exC]
  case hk =>
    rintro e w0 ⟨SB, rfl, hs0, hf0⟩
    have hwc := hfc.size
    have HST := hid (show Sts w w0 _ SB x0 [] from ⟨hs0, fun e he => (by cases he), hfc.trans hf0 (fun _ _ h => h), fun z hz => by have := hz.1; omega⟩)
    clear hfc hbc hbt hbm hs0 hf0 hwc
    go_wp2_with (first | fail | still_step | (with_reducible refine wpStill_nil ?_) | (with_reducible refine Flow.Both.mk ?_ ?_) | (with_reducible exact True.intro) | (with_reducible refine Flow.same_mk rfl rfl rfl ?_; go_simp; done) | (with_reducible exact Flow.same_un rfl rfl rfl) | (refine Flow.region_still mixed ?hB ?_; (case hB => decide +kernel)))
    go_at_call 13
    refine Calls.named fun wc hwc => ?_
    have hST := Sts.fr HST.out (show Fr (fun _ => False) w0 wc by rw [hwc]; (repeat' (first | with_reducible exact Fr.refl _ _ | with_reducible apply Fr.alloc | with_reducible apply Fr.drew | with_reducible apply Fr.drewN | (with_reducible refine Fr.setCell ?_ ?_ _))))
    clear HST hwc
    have HST := hid hST
    clear hST
    refine (do_is SB _ x0 2 0 wc HST.out.sr x0_fits.ok (x0_fits.room (by omega)) x0_fits.mem).mono ?_
    rintro e w1 ⟨rfl, R1, hm1, hv1⟩
    have hST := HST.out.mv hm1 hv1
    clear hm1 hv1 HST
    have HST := hid hST
    clear hST
    rw [show (x0.doIt 2 0).2.1 = ⟨3, 0, 0, 0⟩ from congrArg Prod.fst d1, show (x0.doIt 2 0).2.2 = true from congrArg Prod.snd d1]
    dsimp only [leakV]
    go_wp2_with (first | ((with_reducible apply wpList_allocA (ty := 37) #[.int .i64 0, .int .i64 0, .int .i64 0, .int .i64 0]); (case zai => exact zLK); (case zac => rfl); intro wA hbA hfA hsA; have HBA := hid hbA; have HFA := hid hfA; clear hbA hfA hsA) | ((with_reducible apply wpList_storeA (b := w1.heap.size) (C := #[.int .i64 0, .int .i64 0, .int .i64 0, .int .i64 0]) (cells := #[.int .i64 (3), .int .i64 (0), .int .i64 (0), .int .i64 (0)]) (T := 37)); (case zsx => rfl); (case zsy => rfl); (case zsn => rfl); (case zsi => exact szLK); (case zs1 => rfl); (case zsb => exact HBA.out); intro wS1 hbS hfS hsS; have hST := Sts.new HST.out (fr_made HFA.out hfS (Nat.le_refl _)) hbS (Nat.le_refl _); clear HST HBA HFA hbS hfS hsS; have HST := hid hST; clear hST) | fail | still_step | (with_reducible refine wpStill_nil ?_) | (with_reducible refine Flow.Both.mk ?_ ?_) | (with_reducible exact True.intro) | (with_reducible refine Flow.same_mk rfl rfl rfl ?_; go_simp; done) | (with_reducible exact Flow.same_un rfl rfl rfl) | (refine Flow.region_still mixed ?hB ?_; (case hB => decide +kernel)))
    go_at_call 13
    refine Calls.named fun wc hwc => ?_
    have hST := Sts.fr HST.out (show Fr (fun _ => False) wS1 wc by rw [hwc]; (repeat' (first | with_reducible exact Fr.refl _ _ | with_reducible apply Fr.alloc | with_reducible apply Fr.drew | with_reducible apply Fr.drewN | (with_reducible refine Fr.setCell ?_ ?_ _))))
    clear HST hwc
    have HST := hid hST
    clear hST
    refine (do_is SB _ x1 0 0 wc HST.out.sr x1_fits.ok (x1_fits.room (by omega)) x1_fits.mem).mono ?_
    rintro e w2 ⟨rfl, R2, hm2, hv2⟩
    have hST := HST.out.mv hm2 hv2
    clear hm2 hv2 HST
    have HST := hid hST
    clear hST
    rw [show (x1.doIt 0 0).2.1 = ⟨1, 0, 0, 1⟩ from congrArg Prod.fst d2, show (x1.doIt 0 0).2.2 = true from congrArg Prod.snd d2]
    dsimp only [leakV]
    go_wp2_with (first | ((with_reducible apply wpList_allocA (ty := 37) #[.int .i64 0, .int .i64 0, .int .i64 0, .int .i64 0]); (case zai => exact zLK); (case zac => rfl); intro wA hbA hfA hsA; have HBA := hid hbA; have HFA := hid hfA; clear hbA hfA hsA) | ((with_reducible apply wpList_storeA (b := w2.heap.size) (C := #[.int .i64 0, .int .i64 0, .int .i64 0, .int .i64 0]) (cells := #[.int .i64 (1), .int .i64 (0), .int .i64 (0), .int .i64 (1)]) (T := 37)); (case zsx => rfl); (case zsy => rfl); (case zsn => rfl); (case zsi => exact szLK); (case zs1 => rfl); (case zsb => exact HBA.out); intro wS2 hbS hfS hsS; have hST := Sts.new HST.out (fr_made HFA.out hfS (Nat.le_refl _)) hbS (Nat.le_refl _); clear HST HBA HFA hbS hfS hsS; have HST := hid hST; clear hST) | fail | still_step | (with_reducible refine wpStill_nil ?_) | (with_reducible refine Flow.Both.mk ?_ ?_) | (with_reducible exact True.intro) | (with_reducible refine Flow.same_mk rfl rfl rfl ?_; go_simp; done) | (with_reducible exact Flow.same_un rfl rfl rfl) | (refine Flow.region_still mixed ?hB ?_; (case hB => decide +kernel)))
    go_at_call 13
    refine Calls.named fun wc hwc => ?_
    have hST := Sts.fr HST.out (show Fr (fun _ => False) wS2 wc by rw [hwc]; (repeat' (first | with_reducible exact Fr.refl _ _ | with_reducible apply Fr.alloc | with_reducible apply Fr.drew | with_reducible apply Fr.drewN | (with_reducible refine Fr.setCell ?_ ?_ _))))
    clear HST hwc
    have HST := hid hST
    clear hST
    refine (do_is SB _ x2 0 0 wc HST.out.sr x2_fits.ok (x2_fits.room (by omega)) x2_fits.mem).mono ?_
    rintro e w3 ⟨rfl, R3, hm3, hv3⟩
    have hST := HST.out.mv hm3 hv3
    clear hm3 hv3 HST
    have HST := hid hST
    clear hST
    rw [show (x2.doIt 0 0).2.1 = none_ from congrArg Prod.fst d3, show (x2.doIt 0 0).2.2 = false from congrArg Prod.snd d3]
    dsimp only [leakV, none_]
    go_wp2_with (first | ((with_reducible apply wpList_allocA (ty := 37) #[.int .i64 0, .int .i64 0, .int .i64 0, .int .i64 0]); (case zai => exact zLK); (case zac => rfl); intro wA hbA hfA hsA; have HBA := hid hbA; have HFA := hid hfA; clear hbA hfA hsA) | ((with_reducible apply wpList_storeA (b := w3.heap.size) (C := #[.int .i64 0, .int .i64 0, .int .i64 0, .int .i64 0]) (cells := #[.int .i64 (0), .int .i64 (0), .int .i64 (0), .int .i64 (0)]) (T := 37)); (case zsx => rfl); (case zsy => rfl); (case zsn => rfl); (case zsi => exact szLK); (case zs1 => rfl); (case zsb => exact HBA.out); intro wS3 hbS hfS hsS; have hST := Sts.new HST.out (fr_made HFA.out hfS (Nat.le_refl _)) hbS (Nat.le_refl _); clear HST HBA HFA hbS hfS hsS; have HST := hid hST; clear hST) | fail | still_step | (with_reducible refine wpStill_nil ?_) | (with_reducible refine Flow.Both.mk ?_ ?_) | (with_reducible exact True.intro) | (with_reducible refine Flow.same_mk rfl rfl rfl ?_; go_simp; done) | (with_reducible exact Flow.same_un rfl rfl rfl) | (refine Flow.region_still mixed ?hB ?_; (case hB => decide +kernel)))
    go_at_call 17
    refine Calls.named fun wc hwc => ?_
    have hST := Sts.fr HST.out (show Fr (fun _ => False) wS3 wc by rw [hwc]; (repeat' (first | with_reducible exact Fr.refl _ _ | with_reducible apply Fr.alloc | with_reducible apply Fr.drew | with_reducible apply Fr.drewN | (with_reducible refine Fr.setCell ?_ ?_ _))))
    clear HST hwc
    have HST := hid hST
    clear hST
    refine (count_is SB _ x3 0 wc HST.out.sr).mono ?_
    rintro e w4 ⟨rfl, hf4⟩
    rw [g3]
    have hST := HST.out.fr hf4
    clear HST hf4
    have HST := hid hST
    clear hST
    go_wp2_with (first | fail | still_step | (with_reducible refine wpStill_nil ?_) | (with_reducible refine Flow.Both.mk ?_ ?_) | (with_reducible exact True.intro) | (with_reducible refine Flow.same_mk rfl rfl rfl ?_; go_simp; done) | (with_reducible exact Flow.same_un rfl rfl rfl) | (refine Flow.region_still mixed ?hB ?_; (case hB => decide +kernel)))
    go_at_call 14
    refine Calls.named fun wc hwc => ?_
    have hST := Sts.fr HST.out (show Fr (fun _ => False) w4 wc by rw [hwc]; (repeat' (first | with_reducible exact Fr.refl _ _ | with_reducible apply Fr.alloc | with_reducible apply Fr.drew | with_reducible apply Fr.drewN | (with_reducible refine Fr.setCell ?_ ?_ _))))
    clear HST hwc
    have HST := hid hST
    clear hST
    have hti := sthread_is SB _ x3 0 wc HST.out.sr
    rw [t3] at hti
    have h16 : (⟨exC, 2, [0, 5, 0, 0, 0, 0, 0, 0, 0, 0, 0, 0, 0, 0, 0, 0], [], false⟩ : Th).regs.length = 16 := rfl
    refine hti.mono ?_
    rintro e w5 ⟨ta5, tc5, rfl, ho5, hf5⟩
    obtain ⟨L5, hLa, hLb⟩ := own_row ho5
    have hST := (Sts.fr HST.out hf5).add (fun e he => ⟨(hLa e he).1, fun hr => by have h1 := HST.out.sr.lt _ hr; have h2 := (hLa e he).2; (try dsimp only at h2); omega⟩)
    have HO5 := hid hLb
    clear HST hLa hLb ho5 hf5 hti
    have HST := hid hST
    obtain ⟨vl5, hvl⟩ : ∃ vl, vl = (standV ⟨exC, 2, [0, 5, 0, 0, 0, 0, 0, 0, 0, 0, 0, 0, 0, 0, 0, 0], [], false⟩ ta5 tc5).toArray := ⟨_, rfl⟩
    have hsd := stand_of _ ta5 tc5 h16
    rw [← hvl] at hsd ⊢
    have hvs := hsd.size
    have hv1 := hsd.one
    have HSD5 := hid hsd
    clear hST hvl hsd h16
    go_wp2_with (first | ((with_reducible apply wpList_allocA (ty := 45) (standV noTh none 0).toArray); (case zai => exact zTHR2); (case zac => rfl); intro wA hbA hfA hsA; have HBA := hid hbA; have HFA := hid hfA; clear hbA hfA hsA) | ((with_reducible apply wpList_storeA (b := w5.heap.size) (C := (standV noTh none 0).toArray) (cells := vl5) (T := 45)); (case zsx => rfl); (case zsy => rfl); (case zsn => exact hvs); (case zsi => rw [hvs]; exact szTHR); (case zs1 => exact hv1); (case zsb => exact HBA.out); intro wS5 hbS hfS hsS; have hST := Sts.new HST.out (fr_made HFA.out hfS (Nat.le_refl _)) hbS (Nat.le_refl _); clear HST HBA HFA hbS hfS hsS hvs hv1; skip; have HST := hid hST; clear hST) | fail | still_step | (with_reducible refine wpStill_nil ?_) | (with_reducible refine Flow.Both.mk ?_ ?_) | (with_reducible exact True.intro) | (with_reducible refine Flow.same_mk rfl rfl rfl ?_; go_simp; done) | (with_reducible exact Flow.same_un rfl rfl rfl) | (refine Flow.region_still mixed ?hB ?_; (case hB => decide +kernel)))
    go_at_call 18
    refine Calls.named fun wc hwc => ?_
    have hST := Sts.fr HST.out (show Fr (fun _ => False) wS5 wc by rw [hwc]; (repeat' (first | with_reducible exact Fr.refl _ _ | with_reducible apply Fr.alloc | with_reducible apply Fr.drew | with_reducible apply Fr.drewN | (with_reducible refine Fr.setCell ?_ ?_ _))))
    clear HST hwc
    have HST := hid hST
    clear hST
    have hti := sure_is SB _ x3 0 wc HST.out.sr x3_fits.ok
    rw [s3] at hti
    have h16 : (⟨exC, 0, [0, 0, 0, 0, 0, 0, 0, 0, 0, 0, 0, 0, 0, 0, 0, 0], [], false⟩ : Th).regs.length = 16 := rfl
    refine hti.mono ?_
    rintro e w6 ⟨ta6, tc6, rfl, ho6, hf6⟩
    obtain ⟨L6, hLa, hLb⟩ := own_row ho6
    have hST := (Sts.fr HST.out hf6).add (fun e he => ⟨(hLa e he).1, fun hr => by have h1 := HST.out.sr.lt _ hr; have h2 := (hLa e he).2; (try dsimp only at h2); omega⟩)
    have HO6 := hid hLb
    clear HST hLa hLb ho6 hf6 hti
    have HST := hid hST
    obtain ⟨vl6, hvl⟩ : ∃ vl, vl = (standV ⟨exC, 0, [0, 0, 0, 0, 0, 0, 0, 0, 0, 0, 0, 0, 0, 0, 0, 0], [], false⟩ ta6 tc6).toArray := ⟨_, rfl⟩
    have hsd := stand_of _ ta6 tc6 h16
    rw [← hvl] at hsd ⊢
    have hvs := hsd.size
    have hv1 := hsd.one
    have HSD6 := hid hsd
    clear hST hvl hsd h16
    go_wp2_with (first | ((with_reducible apply wpList_allocA (ty := 45) (standV noTh none 0).toArray); (case zai => exact zTHR2); (case zac => rfl); intro wA hbA hfA hsA; have HBA := hid hbA; have HFA := hid hfA; clear hbA hfA hsA) | ((with_reducible apply wpList_storeA (b := w6.heap.size) (C := (standV noTh none 0).toArray) (cells := vl6) (T := 45)); (case zsx => rfl); (case zsy => rfl); (case zsn => exact hvs); (case zsi => rw [hvs]; exact szTHR); (case zs1 => exact hv1); (case zsb => exact HBA.out); intro wS6 hbS hfS hsS; have hST := Sts.new HST.out (fr_made HFA.out hfS (Nat.le_refl _)) hbS (Nat.le_refl _); clear HST HBA HFA hbS hfS hsS hvs hv1; skip; have HST := hid hST; clear hST) | fail | still_step | (with_reducible refine wpStill_nil ?_) | (with_reducible refine Flow.Both.mk ?_ ?_) | (with_reducible exact True.intro) | (with_reducible refine Flow.same_mk rfl rfl rfl ?_; go_simp; done) | (with_reducible exact Flow.same_un rfl rfl rfl) | (refine Flow.region_still mixed ?hB ?_; (case hB => decide +kernel)))
    go_at_call 13
    refine Calls.named fun wc hwc => ?_
    have hST := Sts.fr HST.out (show Fr (fun _ => False) wS6 wc by rw [hwc]; (repeat' (first | with_reducible exact Fr.refl _ _ | with_reducible apply Fr.alloc | with_reducible apply Fr.drew | with_reducible apply Fr.drewN | (with_reducible refine Fr.setCell ?_ ?_ _))))
    clear HST hwc
    have HST := hid hST
    clear hST
    refine (do_is SB _ x3 4 0 wc HST.out.sr x3_fits.ok (x3_fits.room (by omega)) x3_fits.mem).mono ?_
    rintro e w7 ⟨rfl, R7, hm7, hv7⟩
    have hST := HST.out.mv hm7 hv7
    clear hm7 hv7 HST
    have HST := hid hST
    clear hST
    rw [show (x3.doIt 4 0).2.1 = ⟨6, 0, 0, 0⟩ from congrArg Prod.fst d4, show (x3.doIt 4 0).2.2 = true from congrArg Prod.snd d4]
    dsimp only [leakV]
    go_wp2_with (first | ((with_reducible apply wpList_allocA (ty := 37) #[.int .i64 0, .int .i64 0, .int .i64 0, .int .i64 0]); (case zai => exact zLK); (case zac => rfl); intro wA hbA hfA hsA; have HBA := hid hbA; have HFA := hid hfA; clear hbA hfA hsA) | ((with_reducible apply wpList_storeA (b := w7.heap.size) (C := #[.int .i64 0, .int .i64 0, .int .i64 0, .int .i64 0]) (cells := #[.int .i64 (6), .int .i64 (0), .int .i64 (0), .int .i64 (0)]) (T := 37)); (case zsx => rfl); (case zsy => rfl); (case zsn => rfl); (case zsi => exact szLK); (case zs1 => rfl); (case zsb => exact HBA.out); intro wS7 hbS hfS hsS; have hST := Sts.new HST.out (fr_made HFA.out hfS (Nat.le_refl _)) hbS (Nat.le_refl _); clear HST HBA HFA hbS hfS hsS; have HST := hid hST; clear hST) | fail | still_step | (with_reducible refine wpStill_nil ?_) | (with_reducible refine Flow.Both.mk ?_ ?_) | (with_reducible exact True.intro) | (with_reducible refine Flow.same_mk rfl rfl rfl ?_; go_simp; done) | (with_reducible exact Flow.same_un rfl rfl rfl) | (refine Flow.region_still mixed ?hB ?_; (case hB => decide +kernel)))
    go_at_call 13
    refine Calls.named fun wc hwc => ?_
    have hST := Sts.fr HST.out (show Fr (fun _ => False) wS7 wc by rw [hwc]; (repeat' (first | with_reducible exact Fr.refl _ _ | with_reducible apply Fr.alloc | with_reducible apply Fr.drew | with_reducible apply Fr.drewN | (with_reducible refine Fr.setCell ?_ ?_ _))))
    clear HST hwc
    have HST := hid hST
    clear hST
    refine (do_is SB _ x4 0 0 wc HST.out.sr x4_fits.ok (x4_fits.room (by omega)) x4_fits.mem).mono ?_
    rintro e w8 ⟨rfl, R8, hm8, hv8⟩
    have hST := HST.out.mv hm8 hv8
    clear hm8 hv8 HST
    have HST := hid hST
    clear hST
    go_wp2_with (first | fail | still_step | (with_reducible refine wpStill_nil ?_) | (with_reducible refine Flow.Both.mk ?_ ?_) | (with_reducible exact True.intro) | (with_reducible refine Flow.same_mk rfl rfl rfl ?_; go_simp; done) | (with_reducible exact Flow.same_un rfl rfl rfl) | (refine Flow.region_still mixed ?hB ?_; (case hB => decide +kernel)))
    go_at_call 13
    refine Calls.named fun wc hwc => ?_
    have hST := Sts.fr HST.out (show Fr (fun _ => False) w8 wc by rw [hwc]; (repeat' (first | with_reducible exact Fr.refl _ _ | with_reducible apply Fr.alloc | with_reducible apply Fr.drew | with_reducible apply Fr.drewN | (with_reducible refine Fr.setCell ?_ ?_ _))))
    clear HST hwc
    have HST := hid hST
    clear hST
    refine (do_is SB _ x5 0 0 wc HST.out.sr x5_fits.ok (x5_fits.room (by omega)) x5_fits.mem).mono ?_
    rintro e w9 ⟨rfl, R9, hm9, hv9⟩
    have hST := HST.out.mv hm9 hv9
    clear hm9 hv9 HST
    have HST := hid hST
    clear hST
    go_wp2_with (first | fail | still_step | (with_reducible refine wpStill_nil ?_) | (with_reducible refine Flow.Both.mk ?_ ?_) | (with_reducible exact True.intro) | (with_reducible refine Flow.same_mk rfl rfl rfl ?_; go_simp; done) | (with_reducible exact Flow.same_un rfl rfl rfl) | (refine Flow.region_still mixed ?hB ?_; (case hB => decide +kernel)))
    go_at_call 15
    refine Calls.named fun wc hwc => ?_
    have hST := Sts.fr HST.out (show Fr (fun _ => False) w9 wc by rw [hwc]; (repeat' (first | with_reducible exact Fr.refl _ _ | with_reducible apply Fr.alloc | with_reducible apply Fr.drew | with_reducible apply Fr.drewN | (with_reducible refine Fr.setCell ?_ ?_ _))))
    clear HST hwc
    have HST := hid hST
    clear hST
    refine (eventsS_is SB _ x6 wc HST.out.sr (x6_fits.room (by omega))).mono ?_
    rintro e w10 ⟨ea, ec, rfl, ho10, hf10⟩
    rw [e6] at ho10
    rw [show x6.x.events.length = 1 by rw [e6]; rfl]
    have hST := HST.out.fr hf10
    clear HST hf10
    have HST := hid hST
    obtain ⟨er, eo, rfl, _, hce⟩ := ho10.vw.cell (by simp [evC])
    have e02 : w10.cell? ⟨er, eo + 2, none⟩ = some (.int .i64 0) := hce 2 _ rfl
    have g1 := hST.get (b := w1.heap.size) (C := #[.int .i64 3, .int .i64 0, .int .i64 0, .int .i64 0]) (T := 37) (by simp)
    have c0_g1 := Blk.cell g1 0
    have f0_g1 := Blk.free g1 0
    have c1_g1 := Blk.cell g1 1
    have f1_g1 := Blk.free g1 1
    have c2_g1 := Blk.cell g1 2
    have f2_g1 := Blk.free g1 2
    have c3_g1 := Blk.cell g1 3
    have f3_g1 := Blk.free g1 3
    have l_g1 := Blk.lt g1
    have g2 := hST.get (b := w2.heap.size) (C := #[.int .i64 1, .int .i64 0, .int .i64 0, .int .i64 1]) (T := 37) (by simp)
    have c0_g2 := Blk.cell g2 0
    have f0_g2 := Blk.free g2 0
    have c1_g2 := Blk.cell g2 1
    have f1_g2 := Blk.free g2 1
    have c2_g2 := Blk.cell g2 2
    have f2_g2 := Blk.free g2 2
    have c3_g2 := Blk.cell g2 3
    have f3_g2 := Blk.free g2 3
    have l_g2 := Blk.lt g2
    have g5 := hST.get (b := w5.heap.size) (C := vl5) (T := 45) (by simp)
    have p5 := (g5.cell 0).trans HSD5.out.place
    have r5 : w10.cell? ⟨w5.heap.size, 2, none⟩ = some (.int .i64 5) := (g5.cell 2).trans (HSD5.out.regs 1 (by omega))
    have g6 := hST.get (b := w6.heap.size) (C := vl6) (T := 45) (by simp)
    have p6 := (g6.cell 0).trans HSD6.out.place
    have r6 : w10.cell? ⟨w6.heap.size, 2, none⟩ = some (.int .i64 0) := (g6.cell 2).trans (HSD6.out.regs 1 (by omega))
    have g7 := hST.get (b := w7.heap.size) (C := #[.int .i64 6, .int .i64 0, .int .i64 0, .int .i64 0]) (T := 37) (by simp)
    have c0_g7 := Blk.cell g7 0
    have f0_g7 := Blk.free g7 0
    have c1_g7 := Blk.cell g7 1
    have f1_g7 := Blk.free g7 1
    have c2_g7 := Blk.cell g7 2
    have f2_g7 := Blk.free g7 2
    have c3_g7 := Blk.cell g7 3
    have f3_g7 := Blk.free g7 3
    have l_g7 := Blk.lt g7
    clear hST ho10 hce g1 g2 g5 g6 g7
    go_wp2_with (first | fail | still_step | (with_reducible refine wpStill_nil ?_) | (with_reducible refine Flow.Both.mk ?_ ?_) | (with_reducible exact True.intro) | (with_reducible refine Flow.same_mk rfl rfl rfl ?_; go_simp; done) | (with_reducible exact Flow.same_un rfl rfl rfl) | (refine Flow.region_still mixed ?hB ?_; (case hB => decide +kernel)))
    go_at_call 30
    refine Calls.named fun wc hwc => ?_
    have hST := Sts.fr HST.out (show Fr (fun _ => False) w10 wc by rw [hwc]; (repeat' (first | with_reducible exact Fr.refl _ _ | with_reducible apply Fr.alloc | with_reducible apply Fr.drew | with_reducible apply Fr.drewN | (with_reducible refine Fr.setCell ?_ ?_ _))))
    clear HST hwc
    have HST := hid hST
    clear hST
    refine (ownerS_is SB _ x6 0 wc HST.out.sr).mono ?_
    rintro e w11 ⟨rfl, hf11⟩
    rw [o6]
    have hST := HST.out.fr hf11
    clear HST hf11 e02 c0_g1 f0_g1 c1_g1 f1_g1 c2_g1 f2_g1 c3_g1 f3_g1 l_g1 c0_g2 f0_g2 c1_g2 f1_g2 c2_g2 f2_g2 c3_g2 f3_g2 l_g2 p5 r5 p6 r6 c0_g7 f0_g7 c1_g7 f1_g7 c2_g7 f2_g7 c3_g7 f3_g7 l_g7
    have HST := hid hST
    clear hST
    go_wp2_with (first | fail | still_step | (with_reducible refine wpStill_nil ?_) | (with_reducible refine Flow.Both.mk ?_ ?_) | (with_reducible exact True.intro) | (with_reducible refine Flow.same_mk rfl rfl rfl ?_; go_simp; done) | (with_reducible exact Flow.same_un rfl rfl rfl) | (refine Flow.region_still mixed ?hB ?_; (case hB => decide +kernel)))
    go_at_call 16
    refine Calls.named fun wc hwc => ?_
    have hST := Sts.fr HST.out (show Fr (fun _ => False) w11 wc by rw [hwc]; (repeat' (first | with_reducible exact Fr.refl _ _ | with_reducible apply Fr.alloc | with_reducible apply Fr.drew | with_reducible apply Fr.drewN | (with_reducible refine Fr.setCell ?_ ?_ _))))
    clear HST hwc
    have HST := hid hST
    clear hST
    refine (memoryS_is SB _ x6 wc HST.out.sr x6_fits.mem).mono ?_
    rintro e w12 ⟨ma, mc, rfl, ho12, hf12⟩
    rw [show x6.x.mem.length = 2 by rw [m6]; rfl]
    have hST := HST.out.fr hf12
    clear HST hf12 ho12
    have HST := hid hST
    clear hST
    go_wp2_with (first | fail | still_step | (with_reducible refine wpStill_nil ?_) | (with_reducible refine Flow.Both.mk ?_ ?_) | (with_reducible exact True.intro) | (with_reducible refine Flow.same_mk rfl rfl rfl ?_; go_simp; done) | (with_reducible exact Flow.same_un rfl rfl rfl) | (refine Flow.region_still mixed ?hB ?_; (case hB => decide +kernel)))
    go_ret
    exact ⟨rfl, (Sts.fr HST.out (show Fr (fun _ => False) w12 _ by (repeat' (first | with_reducible exact Fr.refl _ _ | with_reducible apply Fr.alloc | with_reducible apply Fr.drew | with_reducible apply Fr.drewN | (with_reducible refine Fr.setCell ?_ ?_ _))))).fr0⟩
end Go.Proofs.Ytbfeopakmjcapaa.Sp
