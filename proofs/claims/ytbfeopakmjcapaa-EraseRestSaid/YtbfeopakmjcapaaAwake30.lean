/-
  The example of chapter 30: it is as the document says.
-/
import Derived.Test.YtbfeopakmjcapaaErN
import Derived.Test.YtbfeopakmjcapaaEr30
set_option linter.unusedVariables false
set_option linter.unusedSimpArgs false
set_option maxHeartbeats 4000000
set_option maxRecDepth 8000
namespace Go.Proofs.Ytbfeopakmjcapaa.Sp
open Go.RowKit Go.Proofs.Ytbfeopakmjcapaa.Seq Go.Proofs.Ytbfeopakmjcapaa.Tso
attribute [local irreducible] wpStill wpList Calls CallsIn

def eC : List Ins := [⟨7, 0, 0, 0, 0, 0, 1⟩, ⟨6, 0, 0, 0, 0, 0, 0⟩]
def eL : List (Int × Int) := [(2, 0), (0, 0), (4, 0), (4, 0), (0, 0)]
def eS : SM := startS [eC] 0 [] 0 1 4
def eS1 : SM := (eS.doIt 2 0).1
theorem eS_fits : Fits eS 0 := start_fits (fun c hc => by
  simp at hc
  subst hc
  intro i hi
  simp [eC] at hi
  rcases hi with rfl | rfl <;> simp [insOk, eC]) (by omega) (by omega) (by omega)
theorem eS1_fits : Fits eS1 1 := eS_fits.doIt 2 0
theorem eList : bareD (runs eS eL).2 = [(0, 0)] := by decide +kernel
theorem eLegal : ((runs eS eL).2.map projD).length = 4 := by decide +kernel
theorem eRest : (restD eS1 1).length = 1 := by decide +kernel

set_option maxRecDepth 100000 in
theorem awake30_true (w : World) : Calls Try.prog 19 #[] w fun e w' => e = .returned (.bool true) ∧ Fr (fun _ => False) w w' := by
  go_enter Try.func19, Try.ntmps19
  go_wp2_with (first | still_step | (with_reducible first | refine wpStill_nil ?_ | refine Flow.Both.mk ?_ ?_ | exact True.intro) | (with_reducible refine Flow.same_mk rfl rfl rfl ?_; go_simp; done) | (with_reducible exact Flow.same_un rfl rfl rfl) | (refine Flow.region_still mixed ?hB ?_; (case hB => decide +kernel)))
  go_at_call 12
  refine Calls.named fun wc hwc => ?_
  have hfc : Fr (fun _ => False) w wc := by rw [hwc]; (with_reducible repeat' (first | exact Fr.refl _ _ | apply Fr.alloc | apply Fr.drew | apply Fr.drewN | refine Fr.setCell ?_ ?_ _))
  have hb0 : Blk wc w.heap.size (codeC eC).toArray 57 := by rw [hwc]; (repeat (first | exact Blk.new w _ _ | with_reducible apply Blk.drew | with_reducible apply Blk.alloc))
  have hb1 : Blk wc (w.heap.size + 1) #[.slice (some ⟨w.heap.size, 0, none⟩) 2 2] 59 := by rw [hwc]; (repeat (first | exact Blk.new' (by simp) | with_reducible apply Blk.drew | with_reducible apply Blk.alloc))
  have hb2 : Blk wc (w.heap.size + 2) #[.slice (some ⟨w.heap.size + 1, 0, none⟩) 1 1, .slice none 0 0, .int .i64 0, .int .i64 0] 25 := by rw [hwc]; (repeat (first | exact Blk.new' (by simp) | with_reducible apply Blk.drew | with_reducible apply Blk.alloc))
  have hb3 : Blk wc (w.heap.size + 3) #[.int .i64 1, .int .i64 4] 35 := by rw [hwc]; (repeat (first | exact Blk.new' (by simp) | with_reducible apply Blk.drew | with_reducible apply Blk.alloc))
  have hb4 : Blk wc (w.heap.size + 4) (dosC eL).toArray 41 := by rw [hwc]; (repeat (first | exact Blk.new' (by simp) | with_reducible apply Blk.drew | with_reducible apply Blk.alloc))
  clear hwc
  have hl4 := hb4.lt
  refine (snew_is (fun _ => True) (fun _ => True) (some ⟨w.heap.size + 1, 0, none⟩) none none 1 0 0 0 [((some ⟨w.heap.size, 0, none⟩, 2), eC)] 0 0 1 4 [] wc ?hc ⟨by simp [ints], .inl rfl⟩ (fun _ => rfl) (by simp) (by simp) ?hi (by omega) (by omega) (by omega) (by omega)).mono ?hk
  case hc =>
    refine ⟨Vw.of_blk hb1 trivial rfl, fun q hq => ?_⟩
    simp at hq
    subst hq
    exact ⟨Vw.of_blk (C := (codeC eC).toArray) hb0 trivial rfl, fun h => by cases h⟩
  case hi =>
    intro q hq
    simp at hq
    subst hq
    simp [eC]
  case hk =>
    rintro e w0 ⟨SB, rfl, hs0, hf0⟩
    have HST := hid (show Sts w w0 _ SB eS [(w.heap.size, (codeC eC).toArray, 57), (w.heap.size + 1, #[.slice (some ⟨w.heap.size, 0, none⟩) 2 2], 59), (w.heap.size + 2, #[.slice (some ⟨w.heap.size + 1, 0, none⟩) 1 1, .slice none 0 0, .int .i64 0, .int .i64 0], 25), (w.heap.size + 3, #[.int .i64 1, .int .i64 4], 35), (w.heap.size + 4, (dosC eL).toArray, 41)] from
      ⟨hs0, fun e he => by
        simp only [List.mem_cons, List.not_mem_nil, or_false] at he
        rcases he with rfl | rfl | rfl | rfl | rfl
        · exact ⟨hb0.fr hf0 (fun h => h), fun h => by have := h.1; dsimp only at this; omega⟩
        · exact ⟨hb1.fr hf0 (fun h => h), fun h => by have := h.1; dsimp only at this; omega⟩
        · exact ⟨hb2.fr hf0 (fun h => h), fun h => by have := h.1; dsimp only at this; omega⟩
        · exact ⟨hb3.fr hf0 (fun h => h), fun h => by have := h.1; dsimp only at this; omega⟩
        · exact ⟨hb4.fr hf0 (fun h => h), fun h => by have := h.1; dsimp only at this; omega⟩, hfc.trans hf0 (fun _ _ h => h), fun z hz => by have := hz.1; omega⟩)
    clear hfc hb0 hb1 hb2 hb3 hb4 hs0 hf0 hl4
    have hb4 : Blk w0 (w.heap.size + 4) (dosC eL).toArray 41 := HST.out.get (by simp)
    have e0 : w0.cell? ⟨w.heap.size + 4, 0, none⟩ = some (.int .i64 2) := (hb4.cell 0).trans rfl
    have e1 : w0.cell? ⟨w.heap.size + 4, 1, none⟩ = some (.int .i64 0) := (hb4.cell 1).trans rfl
    have l4 := hb4.lt
    clear hb4
    have hbi := HST.out.get (b := w.heap.size + 2) (C := #[.slice (some ⟨w.heap.size + 1, 0, none⟩) 1 1, .slice none 0 0, .int .i64 0, .int .i64 0]) (T := 25) (by simp)
    have c0_i := Blk.cell hbi 0
    have f0_i := Blk.free hbi 0
    have c1_i := Blk.cell hbi 1
    have f1_i := Blk.free hbi 1
    have c2_i := Blk.cell hbi 2
    have f2_i := Blk.free hbi 2
    have c3_i := Blk.cell hbi 3
    have f3_i := Blk.free hbi 3
    have l_i := Blk.lt hbi
    have hbs := HST.out.get (b := w.heap.size + 3) (C := #[.int .i64 1, .int .i64 4]) (T := 35) (by simp)
    have c0_z := Blk.cell hbs 0
    have f0_z := Blk.free hbs 0
    have c1_z := Blk.cell hbs 1
    have f1_z := Blk.free hbs 1
    have l_z := Blk.lt hbs
    clear hbi hbs
    go_wp2_with (first | still_step | (with_reducible first | refine wpStill_nil ?_ | refine Flow.Both.mk ?_ ?_ | exact True.intro) | (with_reducible refine Flow.same_mk rfl rfl rfl ?_; go_simp; done) | (with_reducible exact Flow.same_un rfl rfl rfl) | (refine Flow.region_still mixed ?hB ?_; (case hB => decide +kernel)))
    clear c0_i f0_i c1_i f1_i c2_i f2_i c3_i f3_i l_i c0_z f0_z c1_z f1_z l_z
    clear e0 e1 l4
    go_at_call 13
    refine Calls.named fun wc hwc => ?_
    have hST := Sts.fr HST.out (show Fr (fun _ => False) w0 wc by rw [hwc]; (with_reducible repeat' (first | exact Fr.refl _ _ | apply Fr.alloc | apply Fr.drew | apply Fr.drewN | refine Fr.setCell ?_ ?_ _)))
    clear HST hwc
    have HST := hid hST
    clear hST
    refine (do_is SB _ eS 2 0 wc HST.out.sr eS_fits.ok (eS_fits.room (by omega)) eS_fits.mem).mono ?_
    rintro e w1 ⟨rfl, R1, hm1, hv1⟩
    have hST := HST.out.mv hm1 hv1
    clear hm1 hv1 HST
    have HST := hid hST
    clear hST
    have hbi := HST.out.get (b := w.heap.size + 2) (C := #[.slice (some ⟨w.heap.size + 1, 0, none⟩) 1 1, .slice none 0 0, .int .i64 0, .int .i64 0]) (T := 25) (by simp)
    have c0_i := Blk.cell hbi 0
    have f0_i := Blk.free hbi 0
    have c1_i := Blk.cell hbi 1
    have f1_i := Blk.free hbi 1
    have c2_i := Blk.cell hbi 2
    have f2_i := Blk.free hbi 2
    have c3_i := Blk.cell hbi 3
    have f3_i := Blk.free hbi 3
    have l_i := Blk.lt hbi
    have hbs := HST.out.get (b := w.heap.size + 3) (C := #[.int .i64 1, .int .i64 4]) (T := 35) (by simp)
    have c0_z := Blk.cell hbs 0
    have f0_z := Blk.free hbs 0
    have c1_z := Blk.cell hbs 1
    have f1_z := Blk.free hbs 1
    have l_z := Blk.lt hbs
    clear hbi hbs
    go_wp2_with (first | still_step | (with_reducible first | refine wpStill_nil ?_ | refine Flow.Both.mk ?_ ?_ | exact True.intro) | (with_reducible refine Flow.same_mk rfl rfl rfl ?_; go_simp; done) | (with_reducible exact Flow.same_un rfl rfl rfl) | (refine Flow.region_still mixed ?hB ?_; (case hB => decide +kernel)))
    clear c0_i f0_i c1_i f1_i c2_i f2_i c3_i f3_i l_i c0_z f0_z c1_z f1_z l_z
    go_at_call 21
    refine Calls.named fun wc hwc => ?_
    have hST := Sts.fr HST.out (show Fr (fun _ => False) w1 wc by rw [hwc]; (with_reducible repeat' (first | exact Fr.refl _ _ | apply Fr.alloc | apply Fr.drew | apply Fr.drewN | refine Fr.setCell ?_ ?_ _)))
    clear HST hwc
    have HST := hid hST
    clear hST
    have hcd : Codes wc (fun _ => True) (some ⟨w.heap.size + 1, 0, none⟩) [((some (⟨w.heap.size, 0, none⟩ : Addr), 2), eC)] := by
      refine ⟨Vw.of_blk (HST.out.get (b := w.heap.size + 1) (C := #[.slice (some ⟨w.heap.size, 0, none⟩) 2 2]) (T := 59) (by simp)) trivial rfl, fun q hq => ?_⟩
      simp at hq
      subst hq
      exact ⟨Vw.of_blk (C := (codeC eC).toArray) (HST.out.get (b := w.heap.size) (T := 57) (by simp)) trivial rfl, fun h => by cases h⟩
    have hdl : Vw wc 2 (fun _ => True) (some ⟨w.heap.size + 4, 0, none⟩) eL.length (dosC eL) := Vw.of_blk (C := (dosC eL).toArray) (HST.out.get (b := w.heap.size + 4) (T := 41) (by simp)) trivial rfl
    have hqi : ∀ q ∈ [((some (⟨w.heap.size, 0, none⟩ : Addr), 2), eC)], q.2.length ≤ 100000 := by
      intro q hq
      simp at hq
      subst hq
      simp [eC]
    have hli := list_is (fun _ => True) (fun _ => True) (some ⟨w.heap.size + 1, 0, none⟩) none none (some ⟨w.heap.size + 4, 0, none⟩) 1 0 0 0 5 [((some (⟨w.heap.size, 0, none⟩ : Addr), 2), eC)] 0 0 1 4 [] eL wc hcd ⟨by simp [ints], .inl rfl⟩ (fun _ => rfl) (by simp) (by simp) hqi (by omega) (by omega) (by omega) (by omega) eS_fits (by simp [eL]) hdl
    rw [show startS ([((some (⟨w.heap.size, 0, none⟩ : Addr), 2), eC)].map (·.2)) 0 [] 0 1 4 = eS from rfl, eList] at hli
    refine hli.mono ?_
    clear hli hcd hdl hqi
    rintro e w2 ⟨a2, c2, rfl, ho2, hf2⟩
    have hv2 := ho2.vw
    have HV2 := hid hv2
    have hST := HST.out.fr hf2
    clear HST hf2
    have HST := hid hST
    clear hST
    clear ho2 hv2
    go_wp2_with (first | still_step | (with_reducible first | refine wpStill_nil ?_ | refine Flow.Both.mk ?_ ?_ | exact True.intro) | (with_reducible refine Flow.same_mk rfl rfl rfl ?_; go_simp; done) | (with_reducible exact Flow.same_un rfl rfl rfl) | (refine Flow.region_still mixed ?hB ?_; (case hB => decide +kernel)))
    go_at_call 23
    refine Calls.named fun wc hwc => ?_
    have hfc : Fr (fun _ => False) w2 wc := by rw [hwc]; (with_reducible repeat' (first | exact Fr.refl _ _ | apply Fr.alloc | apply Fr.drew | apply Fr.drewN | refine Fr.setCell ?_ ?_ _))
    have hbd : Blk wc w2.heap.size (dosC [(0, 0)]).toArray 92 := by rw [hwc]; (repeat (first | exact Blk.new w2 _ _ | with_reducible apply Blk.drew | with_reducible apply Blk.alloc))
    have hST := HST.out.fr hfc
    clear HST hwc
    have HST := hid hST
    clear hST
    refine (same30_is a2 (some ⟨w2.heap.size, 0, none⟩) c2 1 [(0, 0)] [(0, 0)] wc ((HV2.out.mono (fun _ _ => trivial)).fr (S := fun _ => False) hfc (fun _ _ h => h)) (Vw.of_blk (R := fun _ => True) hbd trivial rfl) (by simp)).mono ?_
    rintro e w3 ⟨rfl, hf3⟩
    rw [show decide ([((0 : Int), (0 : Int))] = [(0, 0)]) = true from rfl]
    have hST := HST.out.fr hf3
    clear HST hf3
    have HST := hid hST
    clear hST
    clear hfc hbd HV2
    have hbi := HST.out.get (b := w.heap.size + 2) (C := #[.slice (some ⟨w.heap.size + 1, 0, none⟩) 1 1, .slice none 0 0, .int .i64 0, .int .i64 0]) (T := 25) (by simp)
    have c0_i := Blk.cell hbi 0
    have f0_i := Blk.free hbi 0
    have c1_i := Blk.cell hbi 1
    have f1_i := Blk.free hbi 1
    have c2_i := Blk.cell hbi 2
    have f2_i := Blk.free hbi 2
    have c3_i := Blk.cell hbi 3
    have f3_i := Blk.free hbi 3
    have l_i := Blk.lt hbi
    have hbs := HST.out.get (b := w.heap.size + 3) (C := #[.int .i64 1, .int .i64 4]) (T := 35) (by simp)
    have c0_z := Blk.cell hbs 0
    have f0_z := Blk.free hbs 0
    have c1_z := Blk.cell hbs 1
    have f1_z := Blk.free hbs 1
    have l_z := Blk.lt hbs
    clear hbi hbs
    go_wp2_with (first | still_step | (with_reducible first | refine wpStill_nil ?_ | refine Flow.Both.mk ?_ ?_ | exact True.intro) | (with_reducible refine Flow.same_mk rfl rfl rfl ?_; go_simp; done) | (with_reducible exact Flow.same_un rfl rfl rfl) | (refine Flow.region_still mixed ?hB ?_; (case hB => decide +kernel)))
    clear c0_i f0_i c1_i f1_i c2_i f2_i c3_i f3_i l_i c0_z f0_z c1_z f1_z l_z
    go_at_call 22
    refine Calls.named fun wc hwc => ?_
    have hST := Sts.fr HST.out (show Fr (fun _ => False) w3 wc by rw [hwc]; (with_reducible repeat' (first | exact Fr.refl _ _ | apply Fr.alloc | apply Fr.drew | apply Fr.drewN | refine Fr.setCell ?_ ?_ _)))
    clear HST hwc
    have HST := hid hST
    clear hST
    have hcd : Codes wc (fun _ => True) (some ⟨w.heap.size + 1, 0, none⟩) [((some (⟨w.heap.size, 0, none⟩ : Addr), 2), eC)] := by
      refine ⟨Vw.of_blk (HST.out.get (b := w.heap.size + 1) (C := #[.slice (some ⟨w.heap.size, 0, none⟩) 2 2]) (T := 59) (by simp)) trivial rfl, fun q hq => ?_⟩
      simp at hq
      subst hq
      exact ⟨Vw.of_blk (C := (codeC eC).toArray) (HST.out.get (b := w.heap.size) (T := 57) (by simp)) trivial rfl, fun h => by cases h⟩
    have hdl : Vw wc 2 (fun _ => True) (some ⟨w.heap.size + 4, 0, none⟩) eL.length (dosC eL) := Vw.of_blk (C := (dosC eL).toArray) (HST.out.get (b := w.heap.size + 4) (T := 41) (by simp)) trivial rfl
    have hqi : ∀ q ∈ [((some (⟨w.heap.size, 0, none⟩ : Addr), 2), eC)], q.2.length ≤ 100000 := by
      intro q hq
      simp at hq
      subst hq
      simp [eC]
    have hli := legal_is (fun _ => True) (fun _ => True) (some ⟨w.heap.size + 1, 0, none⟩) none none (some ⟨w.heap.size + 4, 0, none⟩) 1 0 0 0 5 [((some (⟨w.heap.size, 0, none⟩ : Addr), 2), eC)] 0 0 1 4 [] eL wc hcd ⟨by simp [ints], .inl rfl⟩ (fun _ => rfl) (by simp) (by simp) hqi (by omega) (by omega) (by omega) (by omega) eS_fits (by simp [eL]) hdl
    rw [show startS ([((some (⟨w.heap.size, 0, none⟩ : Addr), 2), eC)].map (·.2)) 0 [] 0 1 4 = eS from rfl, eLegal] at hli
    refine hli.mono ?_
    clear hli hcd hdl hqi
    rintro e w4 ⟨a4, c4, rfl, ho4, hf4⟩
    have hST := HST.out.fr hf4
    clear HST hf4
    have HST := hid hST
    clear hST
    clear ho4
    go_wp2_with (first | still_step | (with_reducible first | refine wpStill_nil ?_ | refine Flow.Both.mk ?_ ?_ | exact True.intro) | (with_reducible refine Flow.same_mk rfl rfl rfl ?_; go_simp; done) | (with_reducible exact Flow.same_un rfl rfl rfl) | (refine Flow.region_still mixed ?hB ?_; (case hB => decide +kernel)))
    go_at_call 25
    refine Calls.named fun wc hwc => ?_
    have hST := Sts.fr HST.out (show Fr (fun _ => False) w4 wc by rw [hwc]; (with_reducible repeat' (first | exact Fr.refl _ _ | apply Fr.alloc | apply Fr.drew | apply Fr.drewN | refine Fr.setCell ?_ ?_ _)))
    clear HST hwc
    have HST := hid hST
    clear hST
    have hri := rest_is SB _ eS1 1 wc HST.out.sr eS1_fits.ok (by omega)
    rw [eRest] at hri
    refine hri.mono ?_
    clear hri
    rintro e w5 ⟨a5, c5, rfl, ho5, hf5⟩
    have hST := HST.out.fr hf5
    clear HST hf5
    have HST := hid hST
    clear hST
    clear ho5
    have hbi := HST.out.get (b := w.heap.size + 2) (C := #[.slice (some ⟨w.heap.size + 1, 0, none⟩) 1 1, .slice none 0 0, .int .i64 0, .int .i64 0]) (T := 25) (by simp)
    have c0_i := Blk.cell hbi 0
    have f0_i := Blk.free hbi 0
    have c1_i := Blk.cell hbi 1
    have f1_i := Blk.free hbi 1
    have c2_i := Blk.cell hbi 2
    have f2_i := Blk.free hbi 2
    have c3_i := Blk.cell hbi 3
    have f3_i := Blk.free hbi 3
    have l_i := Blk.lt hbi
    have hbs := HST.out.get (b := w.heap.size + 3) (C := #[.int .i64 1, .int .i64 4]) (T := 35) (by simp)
    have c0_z := Blk.cell hbs 0
    have f0_z := Blk.free hbs 0
    have c1_z := Blk.cell hbs 1
    have f1_z := Blk.free hbs 1
    have l_z := Blk.lt hbs
    clear hbi hbs
    go_wp2_with (first | still_step | (with_reducible first | refine wpStill_nil ?_ | refine Flow.Both.mk ?_ ?_ | exact True.intro) | (with_reducible refine Flow.same_mk rfl rfl rfl ?_; go_simp; done) | (with_reducible exact Flow.same_un rfl rfl rfl) | (refine Flow.region_still mixed ?hB ?_; (case hB => decide +kernel)))
    clear c0_i f0_i c1_i f1_i c2_i f2_i c3_i f3_i l_i c0_z f0_z c1_z f1_z l_z
    go_at_call 21
    refine Calls.named fun wc hwc => ?_
    have hST := Sts.fr HST.out (show Fr (fun _ => False) w5 wc by rw [hwc]; (with_reducible repeat' (first | exact Fr.refl _ _ | apply Fr.alloc | apply Fr.drew | apply Fr.drewN | refine Fr.setCell ?_ ?_ _)))
    clear HST hwc
    have HST := hid hST
    clear hST
    have hcd : Codes wc (fun _ => True) (some ⟨w.heap.size + 1, 0, none⟩) [((some (⟨w.heap.size, 0, none⟩ : Addr), 2), eC)] := by
      refine ⟨Vw.of_blk (HST.out.get (b := w.heap.size + 1) (C := #[.slice (some ⟨w.heap.size, 0, none⟩) 2 2]) (T := 59) (by simp)) trivial rfl, fun q hq => ?_⟩
      simp at hq
      subst hq
      exact ⟨Vw.of_blk (C := (codeC eC).toArray) (HST.out.get (b := w.heap.size) (T := 57) (by simp)) trivial rfl, fun h => by cases h⟩
    have hdl : Vw wc 2 (fun _ => True) (some ⟨w.heap.size + 4, 0, none⟩) eL.length (dosC eL) := Vw.of_blk (C := (dosC eL).toArray) (HST.out.get (b := w.heap.size + 4) (T := 41) (by simp)) trivial rfl
    have hqi : ∀ q ∈ [((some (⟨w.heap.size, 0, none⟩ : Addr), 2), eC)], q.2.length ≤ 100000 := by
      intro q hq
      simp at hq
      subst hq
      simp [eC]
    refine (list_none (fun _ => True) (fun _ => True) (some ⟨w.heap.size + 1, 0, none⟩) none none (some ⟨w.heap.size + 4, 0, none⟩) 1 0 0 0 5 [((some (⟨w.heap.size, 0, none⟩ : Addr), 2), eC)] 0 0 0 0 [] eL wc hcd ⟨by simp [ints], .inl rfl⟩ (fun _ => rfl) (by simp) (by simp) hqi (by omega) (by omega) (by omega) (by simp [eL]) hdl).mono ?_
    clear hcd hdl hqi
    rintro e w6 ⟨rfl, hf6⟩
    have hST := HST.out.fr hf6
    clear HST hf6
    have HST := hid hST
    clear hST
    go_wp2_with (first | still_step | (with_reducible first | refine wpStill_nil ?_ | refine Flow.Both.mk ?_ ?_ | exact True.intro) | (with_reducible refine Flow.same_mk rfl rfl rfl ?_; go_simp; done) | (with_reducible exact Flow.same_un rfl rfl rfl) | (refine Flow.region_still mixed ?hB ?_; (case hB => decide +kernel)))
    go_ret
    exact ⟨rfl, (Sts.fr HST.out (show Fr (fun _ => False) w6 _ by (with_reducible repeat' (first | exact Fr.refl _ _ | apply Fr.alloc | apply Fr.drew | apply Fr.drewN | refine Fr.setCell ?_ ?_ _)))).fr0⟩
end Go.Proofs.Ytbfeopakmjcapaa.Sp
