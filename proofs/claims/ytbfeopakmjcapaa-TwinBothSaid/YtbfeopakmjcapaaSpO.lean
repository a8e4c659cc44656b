/-
  New of package tso, of no room that may be: none.
-/
import Derived.Test.YtbfeopakmjcapaaTsoN
import Derived.Test.YtbfeopakmjcapaaSpD
import Derived.Test.YtbfeopakmjcapaaSpN
set_option linter.unusedVariables false
set_option linter.unusedSimpArgs false
set_option maxHeartbeats 4000000
set_option maxRecDepth 8000
namespace Go.Proofs.Ytbfeopakmjcapaa.Tso
open Go.RowKit Go.Proofs.Ytbfeopakmjcapaa.Seq
attribute [local irreducible] wpStill wpList Calls CallsIn

set_option maxHeartbeats 8000000 in
theorem new_none (Rc Rm : Nat → Prop) (ao am aa : Option Addr) (co cm an ac : Nat) (qs : List ((Option Addr × Nat) × List Ins)) (words locks : Nat) (room : Int) (mem : List Int) (w : World) (hc : Codes w Rc ao qs) (hm : Vw w 1 Rm am mem.length (ints mem)) (hmn : am = none → mem.length = 0)
    (hq : qs.length ≤ 1000) (hl : mem.length ≤ 100000) (hi : ∀ q ∈ qs, q.2.length ≤ 100000) (hw : words ≤ 65536) (hlk : locks ≤ 8) (hr : room < 1 ∨ 1000 < room) :
    Calls Try.prog 32 #[.agg #[.slice ao qs.length co, .slice aa an ac, .int .i64 (words : Int), .int .i64 (locks : Int)], .slice am mem.length cm, .int .i64 room] w fun e w' =>
      e = .returned (.pointer none) ∧ Fr (fun _ => False) w w' := by
  have HC := hid hc
  have HM := hid hm
  have HI := hid hi
  clear hc hm hi
  obtain ⟨L, hL⟩ : ∃ L, L = mem.length := ⟨_, rfl⟩
  have HL := hid hL
  rw [← hL] at hl hmn
  rw [← hL]
  obtain ⟨L2, hL2⟩ : ∃ L2, L2 = qs.length := ⟨_, rfl⟩
  have HL2 := hid hL2
  rw [← hL2] at hq
  rw [← hL2]
  clear hL hL2
  have HX := hid (Blk.new w #[.slice ao L2 co, .slice aa an ac, .int .i64 (words : Int), .int .i64 (locks : Int)] 25)
  go_enter Try.func32, Try.ntmps32
  go_wp2_with (first | ((refine wpList_makeF _ rfl (.tmp 11) (.tmp 11) 26 rfl 2 (.int .i64 0) 8 Try.underlying26 infoTI rfl words rfl rfl (by omega) (by omega) ?_); intro wA hbA hfA hsA; have hx := Blk.fr (S := fun _ => False) (show Blk _ w.heap.size #[.slice ao L2 co, .slice aa an ac, .int .i64 (words : Int), .int .i64 (locks : Int)] 25 from by ((repeat' (first | with_reducible exact HX.out | with_reducible apply Blk.drew | with_reducible apply Blk.alloc)))) hfA (fun h => h); have HMB := hid hbA; have HFA := hid hfA; have HSA := hid hsA; clear HX hbA hfA hsA; have HX := hid hx; have c2_i := hx.cell 2; have c3_i := hx.cell 3; have l_i := hx.lt; clear hx) | still_step | (with_reducible first | refine wpStill_nil ?_ | refine Flow.Both.mk ?_ ?_ | exact True.intro) | (with_reducible refine Flow.same_mk rfl rfl rfl ?_; go_simp; done) | (with_reducible exact Flow.same_un rfl rfl rfl) | (with_reducible refine Flow.region_fork (id := 1) [0, 1, 3, 0, 0, 16, 56, 0, 255, 511, 1023] 844 51 (.look 0 (.look 1 (.look 4 (.look 5 (.look 7 (.act 2 [4, 5] (.act 3 [4, 5] (.act 6 [] (.act 8 [] (.act 9 [] (.look 10 .done) .stop) .stop) .stop) .stop) (.act 3 [0, 1, 4, 5] (.act 2 [4, 5] (.act 6 [] (.act 8 [] (.act 9 [] (.look 10 .done) .stop) .stop) .stop) (.act 6 [0, 1] (.act 2 [] (.act 8 [] (.act 9 [] (.look 10 .done) .stop) .stop) .stop) .stop)) .stop))))))) mixed ?hB ?_; (case hB => decide +kernel); simp only [Flow.q1, Flow.q2, Flow.q5, Flow.q6, Flow.q7, Flow.q8, Flow.q9, Flow.wpFT, Flow.Tr.map, Flow.SameAll]) | (with_reducible refine Flow.region_flow (id := 8) [0, 0, 2, 6, 14, 0, 32, 0, 224, 480, 992, 2016, 4094, 8191, 16383, 32767] 40768 24604 [(0, none), (1, none), (2, none), (3, none), (4, none), (5, none), (7, none), (6, some [2, 3, 4]), (8, some [2, 3, 4]), (9, some [2, 3, 4]), (10, some [2, 3, 4]), (11, some [2, 3, 4]), (12, some []), (13, none), (14, none), (15, some [])] mixed ?hB ?_; (case hB => decide +kernel); simp only [Flow.textOf, Flow.q1, Flow.q2, Flow.q3, Flow.q4, Flow.q5, Flow.q6, Flow.q7, Flow.q8, Flow.q9, Flow.wpFl, Flow.SameAll]) | (refine Flow.region_still mixed ?hB ?_; (case hB => decide +kernel)))
  · refine (rep_is locks hlk wA.heap.size 0 1 (-1) _ (by go_simp)).mono ?_
    rintro e wC ⟨oa, oc, rfl, hoC, hfC⟩
    have hfAC := (show Fr (fun _ => False) wA _ by (with_reducible repeat' (first | exact Fr.refl _ _ | apply Fr.alloc | apply Fr.drew | apply Fr.drewN | refine Fr.setCell ?_ ?_ _))).trans hfC (fun _ _ h => h)
    have hfwA := (show Fr (fun _ => False) w _ by (with_reducible repeat' (first | exact Fr.refl _ _ | apply Fr.alloc | apply Fr.drew | apply Fr.drewN | refine Fr.setCell ?_ ?_ _))).trans HFA.out (fun _ _ h => h)
    have hx := HX.out.fr hfAC (fun h => h)
    have hs0 := hfAC.size
    have hs1 := hfwA.size
    have hs2 := HX.out.lt
    have hmb : Blk wC (w.heap.size + 1) (List.replicate words (.int .i64 0)).toArray 2 := by have := HMB.out.fr hfAC (fun h => h); simpa using this
    have HX2 := hid hx
    have HMB2 := hid hmb
    have HO2 := hid (hoC.mono (R2 := fun k => w.heap.size ≤ k) (fun k _ h => by (try simp at h); omega))
    have HF2 := hid (hfwA.trans hfAC (fun _ _ h => h))
    clear hx hmb hoC hfAC hfwA HX HMB
    (try clear hfC)
    (try clear HFA)
    (try clear HSA)
    (try go_wp2_with (first | still_step | (with_reducible first | refine wpStill_nil ?_ | refine Flow.Both.mk ?_ ?_ | exact True.intro) | (with_reducible refine Flow.same_mk rfl rfl rfl ?_; go_simp; done) | (with_reducible exact Flow.same_un rfl rfl rfl) | (with_reducible refine Flow.region_fork (id := 1) [0, 1, 3, 0, 0, 16, 56, 0, 255, 511, 1023] 844 51 (.look 0 (.look 1 (.look 4 (.look 5 (.look 7 (.act 2 [4, 5] (.act 3 [4, 5] (.act 6 [] (.act 8 [] (.act 9 [] (.look 10 .done) .stop) .stop) .stop) .stop) (.act 3 [0, 1, 4, 5] (.act 2 [4, 5] (.act 6 [] (.act 8 [] (.act 9 [] (.look 10 .done) .stop) .stop) .stop) (.act 6 [0, 1] (.act 2 [] (.act 8 [] (.act 9 [] (.look 10 .done) .stop) .stop) .stop) .stop)) .stop))))))) mixed ?hB ?_; (case hB => decide +kernel); simp only [Flow.q1, Flow.q2, Flow.q5, Flow.q6, Flow.q7, Flow.q8, Flow.q9, Flow.wpFT, Flow.Tr.map, Flow.SameAll]) | (with_reducible refine Flow.region_flow (id := 8) [0, 0, 2, 6, 14, 0, 32, 0, 224, 480, 992, 2016, 4094, 8191, 16383, 32767] 40768 24604 [(0, none), (1, none), (2, none), (3, none), (4, none), (5, none), (7, none), (6, some [2, 3, 4]), (8, some [2, 3, 4]), (9, some [2, 3, 4]), (10, some [2, 3, 4]), (11, some [2, 3, 4]), (12, some []), (13, none), (14, none), (15, some [])] mixed ?hB ?_; (case hB => decide +kernel); simp only [Flow.textOf, Flow.q1, Flow.q2, Flow.q3, Flow.q4, Flow.q5, Flow.q6, Flow.q7, Flow.q8, Flow.q9, Flow.wpFl, Flow.SameAll]) | (refine Flow.region_still mixed ?hB ?_; (case hB => decide +kernel))))
    obtain ⟨wD, hwD, hfD⟩ : ∃ wD, wD = wC.alloc (.cells #[.slice none 0 0, .slice (some ⟨w.heap.size + 1, 0, none⟩) words words, .slice oa locks oc, .slice none 0 0, .int .i64 room] 110) ∧ Fr (fun _ => False) wC wD := ⟨_, rfl, by (with_reducible repeat' (first | exact Fr.refl _ _ | apply Fr.alloc | apply Fr.drew | apply Fr.drewN | refine Fr.setCell ?_ ?_ _))⟩
    have hbD : Blk wD wC.heap.size #[.slice none 0 0, .slice (some ⟨w.heap.size + 1, 0, none⟩) words words, .slice oa locks oc, .slice none 0 0, .int .i64 room] 110 := by rw [hwD]; exact Blk.new wC _ _
    obtain ⟨kc, wE, hcp, hmE, hfE, hsE⟩ := copy_mem (cm := cm) (HMB2.out.fr hfD (fun h => h)) (HM.out.fr (HF2.out.trans hfD (fun _ _ h => h)) (fun _ _ h => h)) hmn HL.out
    rw [← hwD, hcp]
    simp only [Result.andThen, Oper.upon]
    have hmblt := HMB2.out.lt
    have hneB : wC.heap.size ≠ w.heap.size + 1 := by omega
    have HFE := hid ((HF2.out.trans hfD (fun _ _ h => h)).trans hfE (fun k hk e => by omega))
    have hxE := (HX2.out.fr hfD (fun h => h)).fr hfE (by omega)
    have HXE := hid hxE
    have hgtB : w.heap.size < wC.heap.size := by have := HX2.out.lt; omega
    clear hxE hmE hfE hbD hfD hwD hcp HX2 HMB2 HO2 HF2 hneB hmblt hsE
    go_wp2_with (first | still_step | (with_reducible first | refine wpStill_nil ?_ | refine Flow.Both.mk ?_ ?_ | exact True.intro) | (with_reducible refine Flow.same_mk rfl rfl rfl ?_; go_simp; done) | (with_reducible exact Flow.same_un rfl rfl rfl) | (with_reducible refine Flow.region_fork (id := 1) [0, 1, 3, 0, 0, 16, 56, 0, 255, 511, 1023] 844 51 (.look 0 (.look 1 (.look 4 (.look 5 (.look 7 (.act 2 [4, 5] (.act 3 [4, 5] (.act 6 [] (.act 8 [] (.act 9 [] (.look 10 .done) .stop) .stop) .stop) .stop) (.act 3 [0, 1, 4, 5] (.act 2 [4, 5] (.act 6 [] (.act 8 [] (.act 9 [] (.look 10 .done) .stop) .stop) .stop) (.act 6 [0, 1] (.act 2 [] (.act 8 [] (.act 9 [] (.look 10 .done) .stop) .stop) .stop) .stop)) .stop))))))) mixed ?hB ?_; (case hB => decide +kernel); simp only [Flow.q1, Flow.q2, Flow.q5, Flow.q6, Flow.q7, Flow.q8, Flow.q9, Flow.wpFT, Flow.Tr.map, Flow.SameAll]) | (with_reducible refine Flow.region_flow (id := 8) [0, 0, 2, 6, 14, 0, 32, 0, 224, 480, 992, 2016, 4094, 8191, 16383, 32767] 40768 24604 [(0, none), (1, none), (2, none), (3, none), (4, none), (5, none), (7, none), (6, some [2, 3, 4]), (8, some [2, 3, 4]), (9, some [2, 3, 4]), (10, some [2, 3, 4]), (11, some [2, 3, 4]), (12, some []), (13, none), (14, none), (15, some [])] mixed ?hB ?_; (case hB => decide +kernel); simp only [Flow.textOf, Flow.q1, Flow.q2, Flow.q3, Flow.q4, Flow.q5, Flow.q6, Flow.q7, Flow.q8, Flow.q9, Flow.wpFl, Flow.SameAll]) | (refine Flow.region_still mixed ?hB ?_; (case hB => decide +kernel)))
    go_at_call 53
    refine (new_all room _).mono ?_
    rintro e wF ⟨rfl, hfF, _⟩
    rw [if_neg (by omega)]
    have HF5 := hid (HFE.out.trans ((show Fr (fun _ => False) wE _ by (with_reducible repeat' (first | exact Fr.refl _ _ | apply Fr.alloc | apply Fr.drew | apply Fr.drewN | refine Fr.setCell ?_ ?_ _))).trans hfF (fun _ _ h => h)) (fun _ _ h => h))
    clear HXE HFE hfF
    go_wp2_with (first | still_step | (with_reducible first | refine wpStill_nil ?_ | refine Flow.Both.mk ?_ ?_ | exact True.intro) | (with_reducible refine Flow.same_mk rfl rfl rfl ?_; go_simp; done) | (with_reducible exact Flow.same_un rfl rfl rfl) | (with_reducible refine Flow.region_fork (id := 1) [0, 1, 3, 0, 0, 16, 56, 0, 255, 511, 1023] 844 51 (.look 0 (.look 1 (.look 4 (.look 5 (.look 7 (.act 2 [4, 5] (.act 3 [4, 5] (.act 6 [] (.act 8 [] (.act 9 [] (.look 10 .done) .stop) .stop) .stop) .stop) (.act 3 [0, 1, 4, 5] (.act 2 [4, 5] (.act 6 [] (.act 8 [] (.act 9 [] (.look 10 .done) .stop) .stop) .stop) (.act 6 [0, 1] (.act 2 [] (.act 8 [] (.act 9 [] (.look 10 .done) .stop) .stop) .stop) .stop)) .stop))))))) mixed ?hB ?_; (case hB => decide +kernel); simp only [Flow.q1, Flow.q2, Flow.q5, Flow.q6, Flow.q7, Flow.q8, Flow.q9, Flow.wpFT, Flow.Tr.map, Flow.SameAll]) | (with_reducible refine Flow.region_flow (id := 8) [0, 0, 2, 6, 14, 0, 32, 0, 224, 480, 992, 2016, 4094, 8191, 16383, 32767] 40768 24604 [(0, none), (1, none), (2, none), (3, none), (4, none), (5, none), (7, none), (6, some [2, 3, 4]), (8, some [2, 3, 4]), (9, some [2, 3, 4]), (10, some [2, 3, 4]), (11, some [2, 3, 4]), (12, some []), (13, none), (14, none), (15, some [])] mixed ?hB ?_; (case hB => decide +kernel); simp only [Flow.textOf, Flow.q1, Flow.q2, Flow.q3, Flow.q4, Flow.q5, Flow.q6, Flow.q7, Flow.q8, Flow.q9, Flow.wpFl, Flow.SameAll]) | (refine Flow.region_still mixed ?hB ?_; (case hB => decide +kernel)))
    go_ret
    exact ⟨rfl, HF5.out.trans (show Fr (fun _ => False) wF _ by (with_reducible repeat' (first | exact Fr.refl _ _ | apply Fr.alloc | apply Fr.drew | apply Fr.drewN | refine Fr.setCell ?_ ?_ _))) (fun _ _ h => h)⟩
  · refine (rep_is locks hlk (w.heap.size + 1) 0 1 (-1) _ (HFA.out.cell (by go_simp) (fun h => h))).mono ?_
    rintro e wC ⟨oa, oc, rfl, hoC, hfC⟩
    have hfAC : Fr (fun _ => False) wA wC := hfC
    have hfwA := (show Fr (fun _ => False) w _ by (with_reducible repeat' (first | exact Fr.refl _ _ | apply Fr.alloc | apply Fr.drew | apply Fr.drewN | refine Fr.setCell ?_ ?_ _))).trans HFA.out (fun _ _ h => h)
    have hx := HX.out.fr hfAC (fun h => h)
    have hs0 := hfAC.size
    have hs1 := hfwA.size
    have hs2 := HX.out.lt
    have hmb : Blk wC (w.heap.size + 1 + 1) (List.replicate words (.int .i64 0)).toArray 2 := by have := HMB.out.fr hfAC (fun h => h); simpa using this
    have HX2 := hid hx
    have HMB2 := hid hmb
    have HO2 := hid (hoC.mono (R2 := fun k => w.heap.size ≤ k) (fun k _ h => by (try simp at h); omega))
    have HF2 := hid (hfwA.trans hfAC (fun _ _ h => h))
    clear hx hmb hoC hfAC hfwA HX HMB
    (try clear hfC)
    (try clear HFA)
    (try clear HSA)
    (try go_wp2_with (first | still_step | (with_reducible first | refine wpStill_nil ?_ | refine Flow.Both.mk ?_ ?_ | exact True.intro) | (with_reducible refine Flow.same_mk rfl rfl rfl ?_; go_simp; done) | (with_reducible exact Flow.same_un rfl rfl rfl) | (with_reducible refine Flow.region_fork (id := 1) [0, 1, 3, 0, 0, 16, 56, 0, 255, 511, 1023] 844 51 (.look 0 (.look 1 (.look 4 (.look 5 (.look 7 (.act 2 [4, 5] (.act 3 [4, 5] (.act 6 [] (.act 8 [] (.act 9 [] (.look 10 .done) .stop) .stop) .stop) .stop) (.act 3 [0, 1, 4, 5] (.act 2 [4, 5] (.act 6 [] (.act 8 [] (.act 9 [] (.look 10 .done) .stop) .stop) .stop) (.act 6 [0, 1] (.act 2 [] (.act 8 [] (.act 9 [] (.look 10 .done) .stop) .stop) .stop) .stop)) .stop))))))) mixed ?hB ?_; (case hB => decide +kernel); simp only [Flow.q1, Flow.q2, Flow.q5, Flow.q6, Flow.q7, Flow.q8, Flow.q9, Flow.wpFT, Flow.Tr.map, Flow.SameAll]) | (with_reducible refine Flow.region_flow (id := 8) [0, 0, 2, 6, 14, 0, 32, 0, 224, 480, 992, 2016, 4094, 8191, 16383, 32767] 40768 24604 [(0, none), (1, none), (2, none), (3, none), (4, none), (5, none), (7, none), (6, some [2, 3, 4]), (8, some [2, 3, 4]), (9, some [2, 3, 4]), (10, some [2, 3, 4]), (11, some [2, 3, 4]), (12, some []), (13, none), (14, none), (15, some [])] mixed ?hB ?_; (case hB => decide +kernel); simp only [Flow.textOf, Flow.q1, Flow.q2, Flow.q3, Flow.q4, Flow.q5, Flow.q6, Flow.q7, Flow.q8, Flow.q9, Flow.wpFl, Flow.SameAll]) | (refine Flow.region_still mixed ?hB ?_; (case hB => decide +kernel))))
    obtain ⟨wD, hwD, hfD⟩ : ∃ wD, wD = wC.alloc (.cells #[.slice none 0 0, .slice (some ⟨w.heap.size + 1 + 1, 0, none⟩) words words, .slice oa locks oc, .slice none 0 0, .int .i64 room] 110) ∧ Fr (fun _ => False) wC wD := ⟨_, rfl, by (with_reducible repeat' (first | exact Fr.refl _ _ | apply Fr.alloc | apply Fr.drew | apply Fr.drewN | refine Fr.setCell ?_ ?_ _))⟩
    have hbD : Blk wD wC.heap.size #[.slice none 0 0, .slice (some ⟨w.heap.size + 1 + 1, 0, none⟩) words words, .slice oa locks oc, .slice none 0 0, .int .i64 room] 110 := by rw [hwD]; exact Blk.new wC _ _
    obtain ⟨kc, wE, hcp, hmE, hfE, hsE⟩ := copy_mem (cm := cm) (HMB2.out.fr hfD (fun h => h)) (HM.out.fr (HF2.out.trans hfD (fun _ _ h => h)) (fun _ _ h => h)) hmn HL.out
    rw [← hwD, hcp]
    simp only [Result.andThen, Oper.upon]
    have hmblt := HMB2.out.lt
    have hneB : wC.heap.size ≠ w.heap.size + 1 + 1 := by omega
    have HFE := hid ((HF2.out.trans hfD (fun _ _ h => h)).trans hfE (fun k hk e => by omega))
    have hxE := (HX2.out.fr hfD (fun h => h)).fr hfE (by omega)
    have HXE := hid hxE
    have hgtB : w.heap.size < wC.heap.size := by have := HX2.out.lt; omega
    clear hxE hmE hfE hbD hfD hwD hcp HX2 HMB2 HO2 HF2 hneB hmblt hsE
    go_wp2_with (first | still_step | (with_reducible first | refine wpStill_nil ?_ | refine Flow.Both.mk ?_ ?_ | exact True.intro) | (with_reducible refine Flow.same_mk rfl rfl rfl ?_; go_simp; done) | (with_reducible exact Flow.same_un rfl rfl rfl) | (with_reducible refine Flow.region_fork (id := 1) [0, 1, 3, 0, 0, 16, 56, 0, 255, 511, 1023] 844 51 (.look 0 (.look 1 (.look 4 (.look 5 (.look 7 (.act 2 [4, 5] (.act 3 [4, 5] (.act 6 [] (.act 8 [] (.act 9 [] (.look 10 .done) .stop) .stop) .stop) .stop) (.act 3 [0, 1, 4, 5] (.act 2 [4, 5] (.act 6 [] (.act 8 [] (.act 9 [] (.look 10 .done) .stop) .stop) .stop) (.act 6 [0, 1] (.act 2 [] (.act 8 [] (.act 9 [] (.look 10 .done) .stop) .stop) .stop) .stop)) .stop))))))) mixed ?hB ?_; (case hB => decide +kernel); simp only [Flow.q1, Flow.q2, Flow.q5, Flow.q6, Flow.q7, Flow.q8, Flow.q9, Flow.wpFT, Flow.Tr.map, Flow.SameAll]) | (with_reducible refine Flow.region_flow (id := 8) [0, 0, 2, 6, 14, 0, 32, 0, 224, 480, 992, 2016, 4094, 8191, 16383, 32767] 40768 24604 [(0, none), (1, none), (2, none), (3, none), (4, none), (5, none), (7, none), (6, some [2, 3, 4]), (8, some [2, 3, 4]), (9, some [2, 3, 4]), (10, some [2, 3, 4]), (11, some [2, 3, 4]), (12, some []), (13, none), (14, none), (15, some [])] mixed ?hB ?_; (case hB => decide +kernel); simp only [Flow.textOf, Flow.q1, Flow.q2, Flow.q3, Flow.q4, Flow.q5, Flow.q6, Flow.q7, Flow.q8, Flow.q9, Flow.wpFl, Flow.SameAll]) | (refine Flow.region_still mixed ?hB ?_; (case hB => decide +kernel)))
    go_at_call 53
    refine (new_all room _).mono ?_
    rintro e wF ⟨rfl, hfF, _⟩
    rw [if_neg (by omega)]
    have HF5 := hid (HFE.out.trans ((show Fr (fun _ => False) wE _ by (with_reducible repeat' (first | exact Fr.refl _ _ | apply Fr.alloc | apply Fr.drew | apply Fr.drewN | refine Fr.setCell ?_ ?_ _))).trans hfF (fun _ _ h => h)) (fun _ _ h => h))
    clear HXE HFE hfF
    go_wp2_with (first | still_step | (with_reducible first | refine wpStill_nil ?_ | refine Flow.Both.mk ?_ ?_ | exact True.intro) | (with_reducible refine Flow.same_mk rfl rfl rfl ?_; go_simp; done) | (with_reducible exact Flow.same_un rfl rfl rfl) | (with_reducible refine Flow.region_fork (id := 1) [0, 1, 3, 0, 0, 16, 56, 0, 255, 511, 1023] 844 51 (.look 0 (.look 1 (.look 4 (.look 5 (.look 7 (.act 2 [4, 5] (.act 3 [4, 5] (.act 6 [] (.act 8 [] (.act 9 [] (.look 10 .done) .stop) .stop) .stop) .stop) (.act 3 [0, 1, 4, 5] (.act 2 [4, 5] (.act 6 [] (.act 8 [] (.act 9 [] (.look 10 .done) .stop) .stop) .stop) (.act 6 [0, 1] (.act 2 [] (.act 8 [] (.act 9 [] (.look 10 .done) .stop) .stop) .stop) .stop)) .stop))))))) mixed ?hB ?_; (case hB => decide +kernel); simp only [Flow.q1, Flow.q2, Flow.q5, Flow.q6, Flow.q7, Flow.q8, Flow.q9, Flow.wpFT, Flow.Tr.map, Flow.SameAll]) | (with_reducible refine Flow.region_flow (id := 8) [0, 0, 2, 6, 14, 0, 32, 0, 224, 480, 992, 2016, 4094, 8191, 16383, 32767] 40768 24604 [(0, none), (1, none), (2, none), (3, none), (4, none), (5, none), (7, none), (6, some [2, 3, 4]), (8, some [2, 3, 4]), (9, some [2, 3, 4]), (10, some [2, 3, 4]), (11, some [2, 3, 4]), (12, some []), (13, none), (14, none), (15, some [])] mixed ?hB ?_; (case hB => decide +kernel); simp only [Flow.textOf, Flow.q1, Flow.q2, Flow.q3, Flow.q4, Flow.q5, Flow.q6, Flow.q7, Flow.q8, Flow.q9, Flow.wpFl, Flow.SameAll]) | (refine Flow.region_still mixed ?hB ?_; (case hB => decide +kernel)))
    go_ret
    exact ⟨rfl, HF5.out.trans (show Fr (fun _ => False) wF _ by (with_reducible repeat' (first | exact Fr.refl _ _ | apply Fr.alloc | apply Fr.drew | apply Fr.drewN | refine Fr.setCell ?_ ?_ _))) (fun _ _ h => h)⟩
  · refine (rep_is locks hlk (w.heap.size + 1) 0 1 (-1) _ (by go_simp)).mono ?_
    rintro e wC ⟨oa, oc, rfl, hoC, hfC⟩
    have hfwC := (show Fr (fun _ => False) w _ by (with_reducible repeat' (first | exact Fr.refl _ _ | apply Fr.alloc | apply Fr.drew | apply Fr.drewN | refine Fr.setCell ?_ ?_ _))).trans hfC (fun _ _ h => h)
    have hx := Blk.fr (S := fun _ => False) (show Blk _ w.heap.size #[.slice ao L2 co, .slice aa an ac, .int .i64 (words : Int), .int .i64 (locks : Int)] 25 from by ((repeat' (first | with_reducible exact HX.out | with_reducible apply Blk.drew | with_reducible apply Blk.alloc)))) hfC (fun h => h)
    have HFWC := hid hfwC
    clear HX
    have HX := hid hx
    have c2_i := hx.cell 2
    have c3_i := hx.cell 3
    have l_i := hx.lt
    have HOC := hid (hoC.mono (R2 := fun z => w.heap.size ≤ z) (fun z _ h => by (try simp at h); omega))
    have hsC := hfwC.size
    clear hx hfC hoC hfwC
    go_wp2_with (first | ((refine wpList_makeF _ rfl (.tmp 11) (.tmp 11) 26 rfl 2 (.int .i64 0) 8 Try.underlying26 infoTI rfl words rfl rfl (by omega) (by omega) ?_); intro wA hbA hfA hsA; have hx := Blk.fr (S := fun _ => False) (show Blk _ w.heap.size #[.slice ao L2 co, .slice aa an ac, .int .i64 (words : Int), .int .i64 (locks : Int)] 25 from by ((repeat' (first | with_reducible exact HX.out | with_reducible apply Blk.drew | with_reducible apply Blk.alloc)))) hfA (fun h => h); have HMB := hid hbA; have HFA := hid hfA; have HSA := hid hsA; clear HX hbA hfA hsA; have HX := hid hx; have c2_i := hx.cell 2; have c3_i := hx.cell 3; have l_i := hx.lt; clear hx) | still_step | (with_reducible first | refine wpStill_nil ?_ | refine Flow.Both.mk ?_ ?_ | exact True.intro) | (with_reducible refine Flow.same_mk rfl rfl rfl ?_; go_simp; done) | (with_reducible exact Flow.same_un rfl rfl rfl) | (with_reducible refine Flow.region_fork (id := 1) [0, 1, 3, 0, 0, 16, 56, 0, 255, 511, 1023] 844 51 (.look 0 (.look 1 (.look 4 (.look 5 (.look 7 (.act 2 [4, 5] (.act 3 [4, 5] (.act 6 [] (.act 8 [] (.act 9 [] (.look 10 .done) .stop) .stop) .stop) .stop) (.act 3 [0, 1, 4, 5] (.act 2 [4, 5] (.act 6 [] (.act 8 [] (.act 9 [] (.look 10 .done) .stop) .stop) .stop) (.act 6 [0, 1] (.act 2 [] (.act 8 [] (.act 9 [] (.look 10 .done) .stop) .stop) .stop) .stop)) .stop))))))) mixed ?hB ?_; (case hB => decide +kernel); simp only [Flow.q1, Flow.q2, Flow.q5, Flow.q6, Flow.q7, Flow.q8, Flow.q9, Flow.wpFT, Flow.Tr.map, Flow.SameAll]) | (with_reducible refine Flow.region_flow (id := 8) [0, 0, 2, 6, 14, 0, 32, 0, 224, 480, 992, 2016, 4094, 8191, 16383, 32767] 40768 24604 [(0, none), (1, none), (2, none), (3, none), (4, none), (5, none), (7, none), (6, some [2, 3, 4]), (8, some [2, 3, 4]), (9, some [2, 3, 4]), (10, some [2, 3, 4]), (11, some [2, 3, 4]), (12, some []), (13, none), (14, none), (15, some [])] mixed ?hB ?_; (case hB => decide +kernel); simp only [Flow.textOf, Flow.q1, Flow.q2, Flow.q3, Flow.q4, Flow.q5, Flow.q6, Flow.q7, Flow.q8, Flow.q9, Flow.wpFl, Flow.SameAll]) | (refine Flow.region_still mixed ?hB ?_; (case hB => decide +kernel)))
    have hfAC := Fr.refl (fun _ => False) wA
    have hfCA : Fr (fun _ => False) wC wA := by first | exact HFA.out | exact (Fr.refl _ _).drew.trans HFA.out (fun _ _ h => h)
    have hfwA := HFWC.out.trans hfCA (fun _ _ h => h)
    have hoC := HOC.out.fr hfCA (fun _ _ h => h)
    have hx := HX.out
    have hs0 := hfCA.size
    have hs1 := hfwA.size
    have hs2 := HX.out.lt
    have hmb : Blk wA wC.heap.size (List.replicate words (.int .i64 0)).toArray 2 := HMB.out
    have HX2 := hid hx
    have HMB2 := hid hmb
    have HO2 := hid (hoC.mono (R2 := fun k => w.heap.size ≤ k) (fun k _ h => by (try simp at h); omega))
    have HF2 := hid (hfwA.trans hfAC (fun _ _ h => h))
    clear hx hmb hoC hfAC hfwA HX HMB
    (try clear hfC)
    (try clear HFA)
    (try clear HSA)
    (try go_wp2_with (first | still_step | (with_reducible first | refine wpStill_nil ?_ | refine Flow.Both.mk ?_ ?_ | exact True.intro) | (with_reducible refine Flow.same_mk rfl rfl rfl ?_; go_simp; done) | (with_reducible exact Flow.same_un rfl rfl rfl) | (with_reducible refine Flow.region_fork (id := 1) [0, 1, 3, 0, 0, 16, 56, 0, 255, 511, 1023] 844 51 (.look 0 (.look 1 (.look 4 (.look 5 (.look 7 (.act 2 [4, 5] (.act 3 [4, 5] (.act 6 [] (.act 8 [] (.act 9 [] (.look 10 .done) .stop) .stop) .stop) .stop) (.act 3 [0, 1, 4, 5] (.act 2 [4, 5] (.act 6 [] (.act 8 [] (.act 9 [] (.look 10 .done) .stop) .stop) .stop) (.act 6 [0, 1] (.act 2 [] (.act 8 [] (.act 9 [] (.look 10 .done) .stop) .stop) .stop) .stop)) .stop))))))) mixed ?hB ?_; (case hB => decide +kernel); simp only [Flow.q1, Flow.q2, Flow.q5, Flow.q6, Flow.q7, Flow.q8, Flow.q9, Flow.wpFT, Flow.Tr.map, Flow.SameAll]) | (with_reducible refine Flow.region_flow (id := 8) [0, 0, 2, 6, 14, 0, 32, 0, 224, 480, 992, 2016, 4094, 8191, 16383, 32767] 40768 24604 [(0, none), (1, none), (2, none), (3, none), (4, none), (5, none), (7, none), (6, some [2, 3, 4]), (8, some [2, 3, 4]), (9, some [2, 3, 4]), (10, some [2, 3, 4]), (11, some [2, 3, 4]), (12, some []), (13, none), (14, none), (15, some [])] mixed ?hB ?_; (case hB => decide +kernel); simp only [Flow.textOf, Flow.q1, Flow.q2, Flow.q3, Flow.q4, Flow.q5, Flow.q6, Flow.q7, Flow.q8, Flow.q9, Flow.wpFl, Flow.SameAll]) | (refine Flow.region_still mixed ?hB ?_; (case hB => decide +kernel))))
    obtain ⟨wD, hwD, hfD⟩ : ∃ wD, wD = wA.alloc (.cells #[.slice none 0 0, .slice (some ⟨wC.heap.size, 0, none⟩) words words, .slice oa locks oc, .slice none 0 0, .int .i64 room] 110) ∧ Fr (fun _ => False) wA wD := ⟨_, rfl, by (with_reducible repeat' (first | exact Fr.refl _ _ | apply Fr.alloc | apply Fr.drew | apply Fr.drewN | refine Fr.setCell ?_ ?_ _))⟩
    have hbD : Blk wD wA.heap.size #[.slice none 0 0, .slice (some ⟨wC.heap.size, 0, none⟩) words words, .slice oa locks oc, .slice none 0 0, .int .i64 room] 110 := by rw [hwD]; exact Blk.new wA _ _
    obtain ⟨kc, wE, hcp, hmE, hfE, hsE⟩ := copy_mem (cm := cm) (HMB2.out.fr hfD (fun h => h)) (HM.out.fr (HF2.out.trans hfD (fun _ _ h => h)) (fun _ _ h => h)) hmn HL.out
    rw [← hwD, hcp]
    simp only [Result.andThen, Oper.upon]
    have hmblt := HMB2.out.lt
    have hneB : wA.heap.size ≠ wC.heap.size := by omega
    have HFE := hid ((HF2.out.trans hfD (fun _ _ h => h)).trans hfE (fun k hk e => by omega))
    have hxE := (HX2.out.fr hfD (fun h => h)).fr hfE (by omega)
    have HXE := hid hxE
    have hgtB : w.heap.size < wA.heap.size := by have := HX2.out.lt; omega
    clear hxE hmE hfE hbD hfD hwD hcp HX2 HMB2 HO2 HF2 hneB hmblt hsE
    go_wp2_with (first | still_step | (with_reducible first | refine wpStill_nil ?_ | refine Flow.Both.mk ?_ ?_ | exact True.intro) | (with_reducible refine Flow.same_mk rfl rfl rfl ?_; go_simp; done) | (with_reducible exact Flow.same_un rfl rfl rfl) | (with_reducible refine Flow.region_fork (id := 1) [0, 1, 3, 0, 0, 16, 56, 0, 255, 511, 1023] 844 51 (.look 0 (.look 1 (.look 4 (.look 5 (.look 7 (.act 2 [4, 5] (.act 3 [4, 5] (.act 6 [] (.act 8 [] (.act 9 [] (.look 10 .done) .stop) .stop) .stop) .stop) (.act 3 [0, 1, 4, 5] (.act 2 [4, 5] (.act 6 [] (.act 8 [] (.act 9 [] (.look 10 .done) .stop) .stop) .stop) (.act 6 [0, 1] (.act 2 [] (.act 8 [] (.act 9 [] (.look 10 .done) .stop) .stop) .stop) .stop)) .stop))))))) mixed ?hB ?_; (case hB => decide +kernel); simp only [Flow.q1, Flow.q2, Flow.q5, Flow.q6, Flow.q7, Flow.q8, Flow.q9, Flow.wpFT, Flow.Tr.map, Flow.SameAll]) | (with_reducible refine Flow.region_flow (id := 8) [0, 0, 2, 6, 14, 0, 32, 0, 224, 480, 992, 2016, 4094, 8191, 16383, 32767] 40768 24604 [(0, none), (1, none), (2, none), (3, none), (4, none), (5, none), (7, none), (6, some [2, 3, 4]), (8, some [2, 3, 4]), (9, some [2, 3, 4]), (10, some [2, 3, 4]), (11, some [2, 3, 4]), (12, some []), (13, none), (14, none), (15, some [])] mixed ?hB ?_; (case hB => decide +kernel); simp only [Flow.textOf, Flow.q1, Flow.q2, Flow.q3, Flow.q4, Flow.q5, Flow.q6, Flow.q7, Flow.q8, Flow.q9, Flow.wpFl, Flow.SameAll]) | (refine Flow.region_still mixed ?hB ?_; (case hB => decide +kernel)))
    go_at_call 53
    refine (new_all room _).mono ?_
    rintro e wF ⟨rfl, hfF, _⟩
    rw [if_neg (by omega)]
    have HF5 := hid (HFE.out.trans ((show Fr (fun _ => False) wE _ by (with_reducible repeat' (first | exact Fr.refl _ _ | apply Fr.alloc | apply Fr.drew | apply Fr.drewN | refine Fr.setCell ?_ ?_ _))).trans hfF (fun _ _ h => h)) (fun _ _ h => h))
    clear HXE HFE hfF
    go_wp2_with (first | still_step | (with_reducible first | refine wpStill_nil ?_ | refine Flow.Both.mk ?_ ?_ | exact True.intro) | (with_reducible refine Flow.same_mk rfl rfl rfl ?_; go_simp; done) | (with_reducible exact Flow.same_un rfl rfl rfl) | (with_reducible refine Flow.region_fork (id := 1) [0, 1, 3, 0, 0, 16, 56, 0, 255, 511, 1023] 844 51 (.look 0 (.look 1 (.look 4 (.look 5 (.look 7 (.act 2 [4, 5] (.act 3 [4, 5] (.act 6 [] (.act 8 [] (.act 9 [] (.look 10 .done) .stop) .stop) .stop) .stop) (.act 3 [0, 1, 4, 5] (.act 2 [4, 5] (.act 6 [] (.act 8 [] (.act 9 [] (.look 10 .done) .stop) .stop) .stop) (.act 6 [0, 1] (.act 2 [] (.act 8 [] (.act 9 [] (.look 10 .done) .stop) .stop) .stop) .stop)) .stop))))))) mixed ?hB ?_; (case hB => decide +kernel); simp only [Flow.q1, Flow.q2, Flow.q5, Flow.q6, Flow.q7, Flow.q8, Flow.q9, Flow.wpFT, Flow.Tr.map, Flow.SameAll]) | (with_reducible refine Flow.region_flow (id := 8) [0, 0, 2, 6, 14, 0, 32, 0, 224, 480, 992, 2016, 4094, 8191, 16383, 32767] 40768 24604 [(0, none), (1, none), (2, none), (3, none), (4, none), (5, none), (7, none), (6, some [2, 3, 4]), (8, some [2, 3, 4]), (9, some [2, 3, 4]), (10, some [2, 3, 4]), (11, some [2, 3, 4]), (12, some []), (13, none), (14, none), (15, some [])] mixed ?hB ?_; (case hB => decide +kernel); simp only [Flow.textOf, Flow.q1, Flow.q2, Flow.q3, Flow.q4, Flow.q5, Flow.q6, Flow.q7, Flow.q8, Flow.q9, Flow.wpFl, Flow.SameAll]) | (refine Flow.region_still mixed ?hB ?_; (case hB => decide +kernel)))
    go_ret
    exact ⟨rfl, HF5.out.trans (show Fr (fun _ => False) wF _ by (with_reducible repeat' (first | exact Fr.refl _ _ | apply Fr.alloc | apply Fr.drew | apply Fr.drewN | refine Fr.setCell ?_ ?_ _))) (fun _ _ h => h)⟩
end Go.Proofs.Ytbfeopakmjcapaa.Tso

/-
  A machine that guesses, of no size that may be: none; and what none does.
-/
namespace Go.Proofs.Ytbfeopakmjcapaa.Sp
open Go.RowKit Go.Proofs.Ytbfeopakmjcapaa.Seq Go.Proofs.Ytbfeopakmjcapaa.Tso
attribute [local irreducible] wpStill wpList Calls CallsIn


theorem guesses_none (n : Int) (w : World) :
    Calls Try.prog 38 #[.pointer none, .int .i64 n] w fun e w' => e = .returned (.pointer none) ∧ Fr (fun _ => False) w w' := by
  go_enter Try.func38, Try.ntmps38
  go_wp2_with (first | still_step | (with_reducible first | refine wpStill_nil ?_ | refine Flow.Both.mk ?_ ?_ | exact True.intro) | (with_reducible refine Flow.same_mk rfl rfl rfl ?_; go_simp; done) | (with_reducible exact Flow.same_un rfl rfl rfl) | (refine Flow.region_still mixed ?hB ?_; (case hB => decide +kernel)))
  go_ret
  exact ⟨rfl, by (with_reducible repeat' (first | exact Fr.refl _ _ | apply Fr.alloc | apply Fr.drew | apply Fr.drewN | refine Fr.setCell ?_ ?_ _))⟩
theorem count_none (n : Int) (w : World) :
    Calls Try.prog 17 #[.pointer none, .int .i64 n] w fun e w' => e = .returned (.int .i64 0) ∧ Fr (fun _ => False) w w' := by
  go_enter Try.func17, Try.ntmps17
  go_wp2_with (first | still_step | (with_reducible first | refine wpStill_nil ?_ | refine Flow.Both.mk ?_ ?_ | exact True.intro) | (with_reducible refine Flow.same_mk rfl rfl rfl ?_; go_simp; done) | (with_reducible exact Flow.same_un rfl rfl rfl) | (refine Flow.region_still mixed ?hB ?_; (case hB => decide +kernel)))
  go_at_call 38
  refine (guesses_none n _).mono ?_
  rintro e w1 ⟨rfl, hf⟩
  have HF := hid ((show Fr (fun _ => False) w _ by (with_reducible repeat' (first | exact Fr.refl _ _ | apply Fr.alloc | apply Fr.drew | apply Fr.drewN | refine Fr.setCell ?_ ?_ _))).trans hf (fun _ _ h => h))
  clear hf
  go_wp2_with (first | still_step | (with_reducible first | refine wpStill_nil ?_ | refine Flow.Both.mk ?_ ?_ | exact True.intro) | (with_reducible refine Flow.same_mk rfl rfl rfl ?_; go_simp; done) | (with_reducible exact Flow.same_un rfl rfl rfl) | (refine Flow.region_still mixed ?hB ?_; (case hB => decide +kernel)))
  go_ret
  exact ⟨rfl, HF.out.trans (show Fr (fun _ => False) w1 _ by (with_reducible repeat' (first | exact Fr.refl _ _ | apply Fr.alloc | apply Fr.drew | apply Fr.drewN | refine Fr.setCell ?_ ?_ _))) (fun _ _ h => h)⟩

theorem do_none (kind n : Int) (w : World) :
    Calls Try.prog 13 #[.pointer none, .agg #[.int .i64 kind, .int .i64 n]] w fun e w' => e = .returned (.tuple #[leakV none_, .bool false]) ∧ Fr (fun _ => False) w w' := by
  have hgs := fun (w1 : World) (_ : Fr (fun _ => False) w w1) => guesses_none n w1
  have HG := hid hgs
  obtain ⟨d4, hd4, hd5⟩ := unLK
  have hl0 : Blk ((w.alloc (.cells #[.int .i64 kind, .int .i64 n] 41)).alloc (.cells #[.int .i64 0, .int .i64 0, .int .i64 0, .int .i64 0] 37)) (w.heap.size + 1) #[.int .i64 0, .int .i64 0, .int .i64 0, .int .i64 0] 37 := Blk.new' (by simp)
  have HL := hid hl0
  have HX := hid ((Blk.new w #[.int .i64 kind, .int .i64 n] 41).alloc (.cells #[.int .i64 0, .int .i64 0, .int .i64 0, .int .i64 0] 37))
  have hres := fun (C : Array Value) (hC : C.size = 4) (tmps : Array Value) (w : World) (b : Nat) (ha : tmps.getD 4 undef = .pointer (some ⟨b, 0, none⟩)) (hb : Blk w b C 37) => results_ct (P := Try.prog) Try.results13 ha hb hd4 hd5 (by rw [hC]; exact szLK)
  have HRES := hid hres
  clear hgs hres hl0
  go_enter Try.func13, Try.ntmps13
  go_wp2_with (first | still_step | (with_reducible first | refine wpStill_nil ?_ | refine Flow.Both.mk ?_ ?_ | exact True.intro) | (with_reducible refine Flow.same_mk rfl rfl rfl ?_; go_simp; done) | (with_reducible exact Flow.same_un rfl rfl rfl) | (refine Flow.region_still mixed ?hB ?_; (case hB => decide +kernel)))
  rw [run_makeMap]
  simp only [Result.andThen, Oper.upon, World.size_alloc]
  obtain ⟨w0, hw0⟩ : ∃ w0, w0 = ((w.alloc (.cells #[.int .i64 kind, .int .i64 n] 41)).alloc (.cells #[.int .i64 0, .int .i64 0, .int .i64 0, .int .i64 0] 37)).alloc (.map #[] 0) := ⟨_, rfl⟩
  have hm0 : MapF w0 (w.heap.size + 2) .i64 (fun _ => none) := by rw [hw0]; have := MapF.made ((w.alloc (.cells #[.int .i64 kind, .int .i64 n] 41)).alloc (.cells #[.int .i64 0, .int .i64 0, .int .i64 0, .int .i64 0] 37)) .i64; simp only [World.size_alloc] at this; exact this
  have hx0 : Blk w0 w.heap.size #[.int .i64 kind, .int .i64 n] 41 := by rw [hw0]; exact HX.out.alloc _
  have hll0 : Blk w0 (w.heap.size + 1) #[.int .i64 0, .int .i64 0, .int .i64 0, .int .i64 0] 37 := by rw [hw0]; exact HL.out.alloc _
  have hf0 : Fr (fun _ => False) w w0 := by rw [hw0]; (with_reducible repeat' (first | exact Fr.refl _ _ | apply Fr.alloc | apply Fr.drew | apply Fr.drewN | refine Fr.setCell ?_ ?_ _))
  have HM := hid (⟨hm0, Fr.refl _ _⟩ : MapF w0 (w.heap.size + 2) .i64 (fun _ => none) ∧ Fr (fun x => x = w.heap.size + 2) w0 w0)
  have HX0 := hid hx0
  have HL0 := hid hll0
  have HF0 := hid hf0
  rw [← hw0]
  clear hm0 hw0 hx0 hll0 hf0 HL HX
  rcases doesS_cases kind with ⟨hd1, hd2⟩ | ⟨hd1, hd2⟩
  · clear hd2
    go_wp2_with (first | (refine wpList_insert (n := 0) (u := fnV 33) rfl (.tmp 9) (.const (.int .i64 0)) (.func 33) (.inl rfl) under_doesS under_intD rfl rfl HM.out.1 rfl ?_; intro wn hm hf; have HM1 := hid (⟨hm, HM.out.2.trans hf (fun _ _ h => h)⟩ : _ ∧ Fr (fun x => x = w.heap.size + 2) w0 wn); clear HM hm hf; have HM := HM1; clear HM1) | (refine wpList_insert (n := 1) (u := fnV 34) rfl (.tmp 9) (.const (.int .i64 1)) (.func 34) (.inl rfl) under_doesS under_intD rfl rfl HM.out.1 rfl ?_; intro wn hm hf; have HM1 := hid (⟨hm, HM.out.2.trans hf (fun _ _ h => h)⟩ : _ ∧ Fr (fun x => x = w.heap.size + 2) w0 wn); clear HM hm hf; have HM := HM1; clear HM1) | (refine wpList_insert (n := 2) (u := fnV 35) rfl (.tmp 9) (.const (.int .i64 2)) (.func 35) (.inl rfl) under_doesS under_intD rfl rfl HM.out.1 rfl ?_; intro wn hm hf; have HM1 := hid (⟨hm, HM.out.2.trans hf (fun _ _ h => h)⟩ : _ ∧ Fr (fun x => x = w.heap.size + 2) w0 wn); clear HM hm hf; have HM := HM1; clear HM1) | (refine wpList_insert (n := 3) (u := fnV 36) rfl (.tmp 9) (.const (.int .i64 3)) (.func 36) (.inl rfl) under_doesS under_intD rfl rfl HM.out.1 rfl ?_; intro wn hm hf; have HM1 := hid (⟨hm, HM.out.2.trans hf (fun _ _ h => h)⟩ : _ ∧ Fr (fun x => x = w.heap.size + 2) w0 wn); clear HM hm hf; have HM := HM1; clear HM1) | (refine wpList_insert (n := 4) (u := fnV 37) rfl (.tmp 9) (.const (.int .i64 4)) (.func 37) (.inl rfl) under_doesS under_intD rfl rfl HM.out.1 rfl ?_; intro wn hm hf; have HM1 := hid (⟨hm, HM.out.2.trans hf (fun _ _ h => h)⟩ : _ ∧ Fr (fun x => x = w.heap.size + 2) w0 wn); clear HM hm hf; have HM := HM1; clear HM1; have hx := HX0.out.fr HM.out.2 (by omega); have c0_x := hx.cell 0; have c1_x := hx.cell 1; have HXn := hid hx; have HL3 := hid (HL0.out.fr HM.out.2 (by omega)); have HFn := hid (HF0.out.trans (S := fun _ => False) HM.out.2 (fun k hk e => by omega)); have hl : (Instr.lookup 81 (.map (some (w.heap.size + 2))) (.int .i64 kind) true).run Try.prog wn = .ok (.tuple #[(doesS kind).getD .nilFunc, .bool (doesS kind).isSome]) wn := (run_look under_doesS under_intD HM.out.1 kind (run_zero zero_doesS wn) true); rw [hd1] at hl; simp only [Option.getD_none, Option.getD_some, Option.isSome_none, Option.isSome_some] at hl; (try dsimp only [fnV] at hl); have lx := hx.lt; have ll := HL3.out.lt; clear hx HM HX0 HL0 HF0; skip) | ((with_reducible apply wpList_storeA (b := w.heap.size + 1) (C := #[.int .i64 0, .int .i64 0, .int .i64 0, .int .i64 0]) (T := 37)); (case zsx => rfl); (case zsy => rfl); (case zsn => rfl); (case zsi => exact szLK); (case zs1 => rfl); (case zsb => ((repeat' (first | with_reducible exact HL1.out | with_reducible exact HL2.out | with_reducible exact HL3.out | with_reducible exact HL4.out | with_reducible apply Blk.drew | (with_reducible refine Blk.set_ne ?_ ?_ _))); all_goals (first | omega | (simp; omega) | (simp; done)))); intro w9 hb9 hf9 hs9; have HB9 := hid hb9; have HF9 := hid hf9; have HSZ9 := hid hs9; clear hb9 hf9 hs9) | still_step | (with_reducible first | refine wpStill_nil ?_ | refine Flow.Both.mk ?_ ?_ | exact True.intro) | (with_reducible refine Flow.same_mk rfl rfl rfl ?_; go_simp; done) | (with_reducible exact Flow.same_un rfl rfl rfl) | (refine Flow.region_still mixed ?hB ?_; (case hB => decide +kernel)))
    refine bodyPost_ret (HRES.out _ rfl _ _ _ rfl HB9.out) rfl ?_
    have hF9 : Fr (fun _ => False) w w9 := fr_weaken (by (repeat' (first | with_reducible exact HFn.out | with_reducible apply Fr.drew))) HF9.out (by omega)
    exact ⟨rfl, hF9⟩
  · clear hd2
    go_wp2_with (first | (refine wpList_insert (n := 0) (u := fnV 33) rfl (.tmp 9) (.const (.int .i64 0)) (.func 33) (.inl rfl) under_doesS under_intD rfl rfl HM.out.1 rfl ?_; intro wn hm hf; have HM1 := hid (⟨hm, HM.out.2.trans hf (fun _ _ h => h)⟩ : _ ∧ Fr (fun x => x = w.heap.size + 2) w0 wn); clear HM hm hf; have HM := HM1; clear HM1) | (refine wpList_insert (n := 1) (u := fnV 34) rfl (.tmp 9) (.const (.int .i64 1)) (.func 34) (.inl rfl) under_doesS under_intD rfl rfl HM.out.1 rfl ?_; intro wn hm hf; have HM1 := hid (⟨hm, HM.out.2.trans hf (fun _ _ h => h)⟩ : _ ∧ Fr (fun x => x = w.heap.size + 2) w0 wn); clear HM hm hf; have HM := HM1; clear HM1) | (refine wpList_insert (n := 2) (u := fnV 35) rfl (.tmp 9) (.const (.int .i64 2)) (.func 35) (.inl rfl) under_doesS under_intD rfl rfl HM.out.1 rfl ?_; intro wn hm hf; have HM1 := hid (⟨hm, HM.out.2.trans hf (fun _ _ h => h)⟩ : _ ∧ Fr (fun x => x = w.heap.size + 2) w0 wn); clear HM hm hf; have HM := HM1; clear HM1) | (refine wpList_insert (n := 3) (u := fnV 36) rfl (.tmp 9) (.const (.int .i64 3)) (.func 36) (.inl rfl) under_doesS under_intD rfl rfl HM.out.1 rfl ?_; intro wn hm hf; have HM1 := hid (⟨hm, HM.out.2.trans hf (fun _ _ h => h)⟩ : _ ∧ Fr (fun x => x = w.heap.size + 2) w0 wn); clear HM hm hf; have HM := HM1; clear HM1) | (refine wpList_insert (n := 4) (u := fnV 37) rfl (.tmp 9) (.const (.int .i64 4)) (.func 37) (.inl rfl) under_doesS under_intD rfl rfl HM.out.1 rfl ?_; intro wn hm hf; have HM1 := hid (⟨hm, HM.out.2.trans hf (fun _ _ h => h)⟩ : _ ∧ Fr (fun x => x = w.heap.size + 2) w0 wn); clear HM hm hf; have HM := HM1; clear HM1; have hx := HX0.out.fr HM.out.2 (by omega); have c0_x := hx.cell 0; have c1_x := hx.cell 1; have HXn := hid hx; have HL3 := hid (HL0.out.fr HM.out.2 (by omega)); have HFn := hid (HF0.out.trans (S := fun _ => False) HM.out.2 (fun k hk e => by omega)); have hl : (Instr.lookup 81 (.map (some (w.heap.size + 2))) (.int .i64 kind) true).run Try.prog wn = .ok (.tuple #[(doesS kind).getD .nilFunc, .bool (doesS kind).isSome]) wn := (run_look under_doesS under_intD HM.out.1 kind (run_zero zero_doesS wn) true); rw [hd1] at hl; simp only [Option.getD_none, Option.getD_some, Option.isSome_none, Option.isSome_some] at hl; (try dsimp only [fnV] at hl); have lx := hx.lt; have ll := HL3.out.lt; clear hx HM HX0 HL0 HF0; skip) | still_step | (with_reducible first | refine wpStill_nil ?_ | refine Flow.Both.mk ?_ ?_ | exact True.intro) | (with_reducible refine Flow.same_mk rfl rfl rfl ?_; go_simp; done) | (with_reducible exact Flow.same_un rfl rfl rfl) | (refine Flow.region_still mixed ?hB ?_; (case hB => decide +kernel)))
    refine (HG.out _ (by first | exact HFn.out | exact HFn.out.drew)).mono ?_
    rintro e w2 ⟨rfl, hf⟩
    have hx2 := HXn.out.fr hf (fun h => h)
    have HL2 := hid (HL3.out.fr hf (fun h => h))
    have HF2 := hid (HFn.out.trans hf (fun _ _ h => h))
    have c1_y := hx2.cell 1
    have l2 := hx2.lt
    have l2l := HL2.out.lt
    clear hf hx2 c0_x c1_x HXn HL3 HFn lx ll
    go_wp2_with (first | ((with_reducible apply wpList_storeA (b := w.heap.size + 1) (C := #[.int .i64 0, .int .i64 0, .int .i64 0, .int .i64 0]) (T := 37)); (case zsx => rfl); (case zsy => rfl); (case zsn => rfl); (case zsi => exact szLK); (case zs1 => rfl); (case zsb => ((repeat' (first | with_reducible exact HL1.out | with_reducible exact HL2.out | with_reducible exact HL3.out | with_reducible exact HL4.out | with_reducible apply Blk.drew | (with_reducible refine Blk.set_ne ?_ ?_ _))); all_goals (first | omega | (simp; omega) | (simp; done)))); intro w9 hb9 hf9 hs9; have HB9 := hid hb9; have HF9 := hid hf9; have HSZ9 := hid hs9; clear hb9 hf9 hs9) | still_step | (with_reducible first | refine wpStill_nil ?_ | refine Flow.Both.mk ?_ ?_ | exact True.intro) | (with_reducible refine Flow.same_mk rfl rfl rfl ?_; go_simp; done) | (with_reducible exact Flow.same_un rfl rfl rfl) | (refine Flow.region_still mixed ?hB ?_; (case hB => decide +kernel)))
    refine bodyPost_ret (HRES.out _ rfl _ _ _ rfl HB9.out) rfl ?_
    have hF9 : Fr (fun _ => False) w w9 := fr_weaken (by (repeat' (first | with_reducible exact HF2.out | with_reducible apply Fr.drew))) HF9.out (by omega)
    exact ⟨rfl, hF9⟩

theorem snew_none (Rc Rm : Nat → Prop) (ao am aa : Option Addr) (co cm an ac : Nat) (qs : List ((Option Addr × Nat) × List Ins)) (words locks : Nat) (room window : Int) (mem : List Int) (w : World) (hc : Codes w Rc ao qs) (hm : Vw w 1 Rm am mem.length (ints mem)) (hmn : am = none → mem.length = 0)
    (hq : qs.length ≤ 1000) (hl : mem.length ≤ 100000) (hi : ∀ q ∈ qs, q.2.length ≤ 100000) (hw : words ≤ 65536) (hlk : locks ≤ 8) (hbad : (room < 1 ∨ 1000 < room) ∨ (window < 1 ∨ 64 < window)) :
    Calls Try.prog 12 #[.agg #[.slice ao qs.length co, .slice aa an ac, .int .i64 (words : Int), .int .i64 (locks : Int)], .slice am mem.length cm, .agg #[.int .i64 room, .int .i64 window]] w fun e w' =>
      e = .returned (.pointer none) ∧ Fr (fun _ => False) w w' := by
  have HC := hid hc
  have HM := hid hm
  have HMN := hid hmn
  have HI := hid hi
  obtain ⟨QL, hQL⟩ : ∃ QL, QL = qs.length := ⟨_, rfl⟩
  have HQL := hid hQL
  rw [← hQL] at hq ⊢
  obtain ⟨ML, hML⟩ : ∃ ML, ML = mem.length := ⟨_, rfl⟩
  have HML := hid hML
  rw [← hML] at hl ⊢
  have HX := hid (Blk.new w #[.slice ao QL co, .slice aa an ac, .int .i64 (words : Int), .int .i64 (locks : Int)] 25)
  clear hc hm hmn hi hQL hML
  go_enter Try.func12, Try.ntmps12
  go_wp2_with (first | still_step | (with_reducible first | refine wpStill_nil ?_ | refine Flow.Both.mk ?_ ?_ | exact True.intro) | (with_reducible refine Flow.same_mk rfl rfl rfl ?_; go_simp; done) | (with_reducible exact Flow.same_un rfl rfl rfl) | (with_reducible refine Flow.region_flow (id := 4) [0, 0, 2, 6, 14, 0, 32, 127, 255, 511] 400 110 [(0, none), (1, none), (2, none), (3, none), (5, none), (6, none), (4, some [5, 6]), (7, some []), (8, some []), (9, none)] mixed ?hB ?_; (case hB => decide +kernel); simp only [Flow.textOf, Flow.q1, Flow.q2, Flow.q3, Flow.q4, Flow.q5, Flow.q6, Flow.q7, Flow.q8, Flow.q9, Flow.wpFl, Flow.SameAll]) | (refine Flow.region_still mixed ?hB ?_; (case hB => decide +kernel)))
  go_at_call 32
  refine Calls.named fun wc hwc => ?_
  have hfc : Fr (fun _ => False) w wc := by rw [hwc]; (with_reducible repeat' (first | exact Fr.refl _ _ | apply Fr.alloc | apply Fr.drew | apply Fr.drewN | refine Fr.setCell ?_ ?_ _))
  have hx : Blk wc w.heap.size #[.slice ao QL co, .slice aa an ac, .int .i64 (words : Int), .int .i64 (locks : Int)] 25 := by rw [hwc]; exact HX.out.alloc _
  have hy : Blk wc (w.heap.size + 1) #[.int .i64 room, .int .i64 window] 35 := by rw [hwc]; exact Blk.new' (by simp)
  rw [HQL.out, HML.out]
  by_cases hr : room < 1 ∨ 1000 < room
  · skip
    refine (new_none Rc Rm ao am aa co cm an ac qs words locks room mem wc (HC.out.fr hfc (fun _ _ h => h)) (HM.out.fr hfc (fun _ _ h => h)) HMN.out (by have := HQL.out; omega) (by have := HML.out; omega) HI.out hw hlk hr).mono ?_
    rintro e w1 ⟨rfl, hf1⟩
    rw [← HQL.out, ← HML.out]
    have hx1 := hx.fr hf1 (fun h => h)
    have hy1 := hy.fr hf1 (fun h => h)
    have c0_i := Blk.cell hx1 0
    have f0_i := Blk.free hx1 0
    have c1_i := Blk.cell hx1 1
    have f1_i := Blk.free hx1 1
    have c2_i := Blk.cell hx1 2
    have f2_i := Blk.free hx1 2
    have c3_i := Blk.cell hx1 3
    have f3_i := Blk.free hx1 3
    have l_i := Blk.lt hx1
    have c0_y := Blk.cell hy1 0
    have f0_y := Blk.free hy1 0
    have c1_y := Blk.cell hy1 1
    have f1_y := Blk.free hy1 1
    have l_y := Blk.lt hy1
    have HF1 := hid (hfc.trans hf1 (fun _ _ h => h))
    clear hwc hfc hx hy hf1 hx1 hy1 HC HM HMN HI HX hr hbad
    go_wp2_with (first | still_step | (with_reducible first | refine wpStill_nil ?_ | refine Flow.Both.mk ?_ ?_ | exact True.intro) | (with_reducible refine Flow.same_mk rfl rfl rfl ?_; go_simp; done) | (with_reducible exact Flow.same_un rfl rfl rfl) | (with_reducible refine Flow.region_flow (id := 4) [0, 0, 2, 6, 14, 0, 32, 127, 255, 511] 400 110 [(0, none), (1, none), (2, none), (3, none), (5, none), (6, none), (4, some [5, 6]), (7, some []), (8, some []), (9, none)] mixed ?hB ?_; (case hB => decide +kernel); simp only [Flow.textOf, Flow.q1, Flow.q2, Flow.q3, Flow.q4, Flow.q5, Flow.q6, Flow.q7, Flow.q8, Flow.q9, Flow.wpFl, Flow.SameAll]) | (refine Flow.region_still mixed ?hB ?_; (case hB => decide +kernel)))
    go_ret
    exact ⟨rfl, HF1.out.trans (show Fr (fun _ => False) w1 _ by (with_reducible repeat' (first | exact Fr.refl _ _ | apply Fr.alloc | apply Fr.drew | apply Fr.drewN | refine Fr.setCell ?_ ?_ _))) (fun _ _ h => h)⟩
  · have hwin : window < 1 ∨ 64 < window := hbad.resolve_left hr
    obtain ⟨rn, hrn⟩ : ∃ n : Nat, room = n := ⟨room.toNat, by omega⟩
    subst hrn
    refine (new_is Rc Rm ao am aa co cm an ac qs words locks rn mem wc (HC.out.fr hfc (fun _ _ h => h)) (HM.out.fr hfc (fun _ _ h => h)) HMN.out (by have := HQL.out; omega) (by have := HML.out; omega) HI.out hw hlk ⟨by omega, by omega⟩).mono ?_
    rintro e w1 ⟨B, ids, rfl, hm1, hf1⟩
    rw [← HQL.out, ← HML.out]
    have hx1 := hx.fr hf1 (fun h => h)
    have hy1 := hy.fr hf1 (fun h => h)
    have c0_i := Blk.cell hx1 0
    have f0_i := Blk.free hx1 0
    have c1_i := Blk.cell hx1 1
    have f1_i := Blk.free hx1 1
    have c2_i := Blk.cell hx1 2
    have f2_i := Blk.free hx1 2
    have c3_i := Blk.cell hx1 3
    have f3_i := Blk.free hx1 3
    have l_i := Blk.lt hx1
    have c0_y := Blk.cell hy1 0
    have f0_y := Blk.free hy1 0
    have c1_y := Blk.cell hy1 1
    have f1_y := Blk.free hy1 1
    have l_y := Blk.lt hy1
    have HF1 := hid (hfc.trans hf1 (fun _ _ h => h))
    clear hwc hfc hx hy hm1 hf1 hx1 hy1 HC HM HMN HI HX hr hbad
    by_cases hw2 : window < 1
    · go_wp2_with (first | still_step | (with_reducible first | refine wpStill_nil ?_ | refine Flow.Both.mk ?_ ?_ | exact True.intro) | (with_reducible refine Flow.same_mk rfl rfl rfl ?_; go_simp; done) | (with_reducible exact Flow.same_un rfl rfl rfl) | (with_reducible refine Flow.region_flow (id := 4) [0, 0, 2, 6, 14, 0, 32, 127, 255, 511] 400 110 [(0, none), (1, none), (2, none), (3, none), (5, none), (6, none), (4, some [5, 6]), (7, some []), (8, some []), (9, none)] mixed ?hB ?_; (case hB => decide +kernel); simp only [Flow.textOf, Flow.q1, Flow.q2, Flow.q3, Flow.q4, Flow.q5, Flow.q6, Flow.q7, Flow.q8, Flow.q9, Flow.wpFl, Flow.SameAll]) | (refine Flow.region_still mixed ?hB ?_; (case hB => decide +kernel)))
      go_ret
      exact ⟨rfl, HF1.out.trans (show Fr (fun _ => False) w1 _ by (with_reducible repeat' (first | exact Fr.refl _ _ | apply Fr.alloc | apply Fr.drew | apply Fr.drewN | refine Fr.setCell ?_ ?_ _))) (fun _ _ h => h)⟩
    · have hw3 : 64 < window := hwin.resolve_left hw2
      clear hwin
      go_wp2_with (first | still_step | (with_reducible first | refine wpStill_nil ?_ | refine Flow.Both.mk ?_ ?_ | exact True.intro) | (with_reducible refine Flow.same_mk rfl rfl rfl ?_; go_simp; done) | (with_reducible exact Flow.same_un rfl rfl rfl) | (with_reducible refine Flow.region_flow (id := 4) [0, 0, 2, 6, 14, 0, 32, 127, 255, 511] 400 110 [(0, none), (1, none), (2, none), (3, none), (5, none), (6, none), (4, some [5, 6]), (7, some []), (8, some []), (9, none)] mixed ?hB ?_; (case hB => decide +kernel); simp only [Flow.textOf, Flow.q1, Flow.q2, Flow.q3, Flow.q4, Flow.q5, Flow.q6, Flow.q7, Flow.q8, Flow.q9, Flow.wpFl, Flow.SameAll]) | (refine Flow.region_still mixed ?hB ?_; (case hB => decide +kernel)))
      go_ret
      exact ⟨rfl, HF1.out.trans (show Fr (fun _ => False) w1 _ by (with_reducible repeat' (first | exact Fr.refl _ _ | apply Fr.alloc | apply Fr.drew | apply Fr.drewN | refine Fr.setCell ?_ ?_ _))) (fun _ _ h => h)⟩
end Go.Proofs.Ytbfeopakmjcapaa.Sp
