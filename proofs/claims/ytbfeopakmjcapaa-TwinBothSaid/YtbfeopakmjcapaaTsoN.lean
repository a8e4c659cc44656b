/-
  New of package tso: threads at their beginnings, in new memory.
-/
import Derived.Test.YtbfeopakmjcapaaTsoA
set_option linter.unusedVariables false
set_option linter.unusedSimpArgs false
set_option maxHeartbeats 4000000
set_option maxRecDepth 8000
namespace Go.Proofs.Ytbfeopakmjcapaa
open Go.RowKit
attribute [local irreducible] wpStill wpList Calls CallsIn
theorem infoINS : (Try.prog.info? 57).map (fun i => (i.zero, i.size, i.bytes)) = some (some (.agg #[.int .i64 0, .int .i64 0, .int .i64 0, .int .i64 0, .int .i64 0, .int .i64 0, .int .i64 0]), 7, 56) := by kernel_rfl
set_option maxHeartbeats 400000 in
/-- slices.Clone: a row of its own; nil of nil. -/
theorem clone_code (R : Nat → Prop) (ao : Option Addr) (n cap : Nat) (cs : List Value) (w : World) (hv : Vw w 7 R ao n cs) (hnil : ao = none → n = 0) (h1 : ∀ u ∈ cs, u.oneCell' = true) (hb : n * 56 ≤ 140737488355328) :
    Calls Try.prog 54 #[.slice ao n cap] w fun e w' => ∃ ao' cap', e = .returned (.slice ao' n cap') ∧ OwnAt w' 57 7 (fun k => w.heap.size ≤ k) ao' n cap' cs ∧ Fr (fun _ => False) w w' ∧ (ao = none → ao' = none) := by
  obtain ⟨i0, hi, hz0, hz1, hz2⟩ := info_parts infoINS
  have hen := fun (w : World) (a : Option Addr) (n c n' c' : Nat) => Lib.run_eql_slice_nil (P := Try.prog) w 59 57 a n c n' c' Try.underlying59
  cases ao with
  | none =>
    have hn := hnil rfl
    subst hn
    obtain rfl : cs = [] := List.eq_nil_of_length_eq_zero (by simpa using hv.1)
    go_enter Try.func54, Try.ntmps54
    go_wp2
    go_ret
    exact ⟨none, 0, rfl, OwnAt.nil _ _ _ _ _, Fr.refl _ _, by simp⟩
  | some ad =>
    have HV := hid hv
    have H1 := hid h1
    have HB := hid hb
    clear hv h1 hb hnil
    go_enter Try.func54, Try.ntmps54
    go_wp2_with (at_builtin; refine wpList_append_Own _ rfl (.tmp 5) (.tmp 6) 59 rfl 57 i0 (.agg #[.int .i64 0, .int .i64 0, .int .i64 0, .int .i64 0, .int .i64 0, .int .i64 0, .int .i64 0]) 7 56 Try.underlying59 hi hz0 hz1 hz2 rfl (by decide) (fun k => w.heap.size ≤ k) R (some ⟨w.heap.size, 0, none⟩) 0 0 [] rfl (OwnAt.nil _ _ _ _ _) (some ad) n cap cs rfl (HV.out.fr (S := fun _ => False) (by (with_reducible repeat' (first | exact Fr.refl _ _ | apply Fr.alloc | apply Fr.drew | apply Fr.drewN | refine Fr.setCell ?_ ?_ _))) (fun _ _ h => h)) H1.out ?b1 ?b2 ?grow)
    case b1 => unfold maxLen; have := HB.out; omega
    case b2 => have := HB.out; omega
    case grow =>
      intro ao' cap' w1 ho1 hf1
      have HO1 := hid ho1
      have HF1 := hid hf1
      clear ho1 hf1
      go_wp2
      go_ret
      refine ⟨ao', cap', rfl, HO1.out.mono (fun k _ h => ?_), ?_, by simp⟩
      · first | omega | (simp at h; omega)
      · have h0 : Fr (fun _ => False) w (w.alloc (.cells #[] 57)) := by (with_reducible repeat' (first | exact Fr.refl _ _ | apply Fr.alloc | apply Fr.drew | apply Fr.drewN | refine Fr.setCell ?_ ?_ _))
        exact h0.trans HF1.out (fun k hk h => by omega)

end Go.Proofs.Ytbfeopakmjcapaa
namespace Go.Proofs.Ytbfeopakmjcapaa.Tso
open Go.RowKit Go.Proofs.Ytbfeopakmjcapaa.Seq
attribute [local irreducible] wpStill wpList Calls CallsIn

theorem infoTI : (Try.prog.info? 2).map (fun i => (i.zero, i.size, i.bytes)) = some (some (.int .i64 0), 1, 8) := by kernel_rfl
theorem szTI : (Try.prog.info? 2).map (·.size) = some 1 := by kernel_rfl
theorem infoPTH : (Try.prog.info? 113).map (fun i => (i.zero, i.size, i.bytes)) = some (some (.pointer none), 1, 8) := by kernel_rfl

set_option maxRecDepth 4000 in
theorem copy_mem {w : World} {mb words L cm : Nat} {am : Option Addr} {Rm : Nat → Prop} {mem : List Int} (hb : Blk w mb (List.replicate words (.int .i64 0)).toArray 2) (hm : Vw w 1 Rm am mem.length (ints mem)) (hmn : am = none → L = 0) (hL : L = mem.length) :
    ∃ k w', (Builtin.copy_ #[26, 26] 3 #[.slice (some ⟨mb, 0, none⟩) words words, .slice am L cm]).run Try.prog w = .ok (goInt k) w' ∧ Blk w' mb (ints (memInit words mem)).toArray 2 ∧ Fr (fun k => k = mb) w w' ∧ w'.heap.size = w.heap.size := by
  by_cases h0 : Nat.min L words = 0
  · refine ⟨0, w, run_copy_none w 26 26 3 2 _ _ _ _ _ _ Try.underlying26 szTI h0, ?_, Fr.refl _ _, rfl⟩
    have e : memInit words mem = List.replicate words 0 := by
      unfold memInit
      have h00 : min L words = 0 := h0
      have h1 : L = 0 ∨ words = 0 := by omega
      rcases h1 with h1 | h1
      · have : mem = [] := List.eq_nil_of_length_eq_zero (by omega)
        subst this; simp
      · subst h1; simp
    rw [e]
    simpa [ints] using hb
  · have hne : ints mem ≠ [] := fun e => by
      have := ints_length mem
      rw [e] at this
      simp at this
      exact h0 (by rw [hL, ← this]; exact Nat.zero_min words)
    obtain ⟨r, off, rfl, _, hc⟩ := hm.cell hne
    have hle : Nat.min L words ≤ words := Nat.min_le_right L words
    have hlen : (ints (mem.take words)).length = Nat.min L words := by rw [ints_length, List.length_take, hL]; exact Nat.min_comm _ _
    have hrun := run_copy_cells (P := Try.prog) w 26 26 3 2 mb 0 words words ⟨r, off, none⟩ L cm (ints (mem.take words)) Try.underlying26 szTI hlen (fun j v hj => by
        rw [Addr.add_lit]
        refine hc j v ?_
        simp only [ints, List.map_take, List.getElem?_take] at hj
        split at hj
        · exact hj
        · cases hj) (fun j hj => by rw [hb.cell]; simp; rw [hlen] at hj; omega) (fun j hj => hb.free _) (ints_one _)
    have hst := store_blk hb 0 (ints (mem.take words)) (by rw [hlen, Nat.zero_add]; simpa using hle)
    refine ⟨_, _, hrun, ?_, hst.2.1, hst.2.2⟩
    have e : (ints (memInit words mem)) = List.take 0 (List.replicate words (Value.int .i64 0)) ++ ints (mem.take words) ++ List.drop (0 + (ints (mem.take words)).length) (List.replicate words (Value.int .i64 0)) := by
      rw [hlen]
      simp only [List.take_zero, List.nil_append, Nat.zero_add, List.drop_replicate, memInit, ints_append]
      congr 1
      simp only [ints, List.map_replicate]
      congr 1
      rw [hL]
      show words - mem.length = words - min mem.length words
      omega
    rw [e]
    simpa using hst.1

set_option maxHeartbeats 8000000 in
theorem new_is (Rc Rm : Nat → Prop) (ao am aa : Option Addr) (co cm an ac : Nat) (qs : List ((Option Addr × Nat) × List Ins)) (words locks room : Nat) (mem : List Int) (w : World) (hc : Codes w Rc ao qs) (hm : Vw w 1 Rm am mem.length (ints mem)) (hmn : am = none → mem.length = 0)
    (hq : qs.length ≤ 1000) (hl : mem.length ≤ 100000) (hi : ∀ q ∈ qs, q.2.length ≤ 100000) (hw : words ≤ 65536) (hlk : locks ≤ 8) (hr : 1 ≤ room ∧ room ≤ 1000) :
    Calls Try.prog 32 #[.agg #[.slice ao qs.length co, .slice aa an ac, .int .i64 (words : Int), .int .i64 (locks : Int)], .slice am mem.length cm, .int .i64 (room : Int)] w fun e w' =>
      ∃ B ids, e = .returned (.pointer (some ⟨B, 0, none⟩)) ∧ MR w' (fun k => w.heap.size ≤ k ∧ k < w'.heap.size) B ids (start (qs.map (·.2)) words mem locks room) ∧ Fr (fun _ => False) w w' := by
  have HC := hid hc
  have HM := hid hm
  have HI := hid hi
  clear hc hm hi
  obtain ⟨L, hL⟩ : ∃ L, L = mem.length := ⟨_, rfl⟩
  have HL := hid hL
  rw [← hL] at hl hmn
  rw [← hL]
  obtain ⟨L2, hL2⟩ : ∃ L2, L2 = qs.length := ⟨_, rfl⟩
  have HL2 := hid hL2
  rw [← hL2] at hq
  rw [← hL2]
  clear hL hL2
  have HX := hid (Blk.new w #[.slice ao L2 co, .slice aa an ac, .int .i64 (words : Int), .int .i64 (locks : Int)] 25)
  go_enter Try.func32, Try.ntmps32
  go_wp2_with (first | ((refine wpList_makeF _ rfl (.tmp 11) (.tmp 11) 26 rfl 2 (.int .i64 0) 8 Try.underlying26 infoTI rfl words rfl rfl (by omega) (by omega) ?_); intro wA hbA hfA hsA; have hx := Blk.fr (S := fun _ => False) (show Blk _ w.heap.size #[.slice ao L2 co, .slice aa an ac, .int .i64 (words : Int), .int .i64 (locks : Int)] 25 from by ((repeat' (first | with_reducible exact HX.out | with_reducible apply Blk.drew | with_reducible apply Blk.alloc)))) hfA (fun h => h); have HMB := hid hbA; have HFA := hid hfA; have HSA := hid hsA; clear HX hbA hfA hsA; have HX := hid hx; have c2_i := hx.cell 2; have c3_i := hx.cell 3; have l_i := hx.lt; clear hx) | still_step | (with_reducible first | refine wpStill_nil ?_ | refine Flow.Both.mk ?_ ?_ | exact True.intro) | (with_reducible refine Flow.same_mk rfl rfl rfl ?_; go_simp; done) | (with_reducible exact Flow.same_un rfl rfl rfl) | (with_reducible refine Flow.region_fork (id := 1) [0, 1, 3, 0, 0, 16, 56, 0, 255, 511, 1023] 844 51 (.look 0 (.look 1 (.look 4 (.look 5 (.look 7 (.act 2 [4, 5] (.act 3 [4, 5] (.act 6 [] (.act 8 [] (.act 9 [] (.look 10 .done) .stop) .stop) .stop) .stop) (.act 3 [0, 1, 4, 5] (.act 2 [4, 5] (.act 6 [] (.act 8 [] (.act 9 [] (.look 10 .done) .stop) .stop) .stop) (.act 6 [0, 1] (.act 2 [] (.act 8 [] (.act 9 [] (.look 10 .done) .stop) .stop) .stop) .stop)) .stop))))))) mixed ?hB ?_; (case hB => decide +kernel); simp only [Flow.q1, Flow.q2, Flow.q5, Flow.q6, Flow.q7, Flow.q8, Flow.q9, Flow.wpFT, Flow.Tr.map, Flow.SameAll]) | (with_reducible refine Flow.region_flow (id := 8) [0, 0, 2, 6, 14, 0, 32, 0, 224, 480, 992, 2016, 4094, 8191, 16383, 32767] 40768 24604 [(0, none), (1, none), (2, none), (3, none), (4, none), (5, none), (7, none), (6, some [2, 3, 4]), (8, some [2, 3, 4]), (9, some [2, 3, 4]), (10, some [2, 3, 4]), (11, some [2, 3, 4]), (12, some []), (13, none), (14, none), (15, some [])] mixed ?hB ?_; (case hB => decide +kernel); simp only [Flow.textOf, Flow.q1, Flow.q2, Flow.q3, Flow.q4, Flow.q5, Flow.q6, Flow.q7, Flow.q8, Flow.q9, Flow.wpFl, Flow.SameAll]) | (refine Flow.region_still mixed ?hB ?_; (case hB => decide +kernel)))
  · refine (rep_is locks hlk wA.heap.size 0 1 (-1) _ (by go_simp)).mono ?_
    rintro e wC ⟨oa, oc, rfl, hoC, hfC⟩
    have hfAC := (show Fr (fun _ => False) wA _ by (with_reducible repeat' (first | exact Fr.refl _ _ | apply Fr.alloc | apply Fr.drew | apply Fr.drewN | refine Fr.setCell ?_ ?_ _))).trans hfC (fun _ _ h => h)
    have hfwA := (show Fr (fun _ => False) w _ by (with_reducible repeat' (first | exact Fr.refl _ _ | apply Fr.alloc | apply Fr.drew | apply Fr.drewN | refine Fr.setCell ?_ ?_ _))).trans HFA.out (fun _ _ h => h)
    have hx := HX.out.fr hfAC (fun h => h)
    have hs0 := hfAC.size
    have hs1 := hfwA.size
    have hs2 := HX.out.lt
    have hmb : Blk wC (w.heap.size + 1) (List.replicate words (.int .i64 0)).toArray 2 := by have := HMB.out.fr hfAC (fun h => h); simpa using this
    have HX2 := hid hx
    have HMB2 := hid hmb
    have HO2 := hid (hoC.mono (R2 := fun k => w.heap.size ≤ k) (fun k _ h => by (try simp at h); omega))
    have HF2 := hid (hfwA.trans hfAC (fun _ _ h => h))
    clear hx hmb hoC hfAC hfwA HX HMB
    (try clear hfC)
    (try clear HFA)
    (try clear HSA)
    (try go_wp2_with (first | still_step | (with_reducible first | refine wpStill_nil ?_ | refine Flow.Both.mk ?_ ?_ | exact True.intro) | (with_reducible refine Flow.same_mk rfl rfl rfl ?_; go_simp; done) | (with_reducible exact Flow.same_un rfl rfl rfl) | (with_reducible refine Flow.region_fork (id := 1) [0, 1, 3, 0, 0, 16, 56, 0, 255, 511, 1023] 844 51 (.look 0 (.look 1 (.look 4 (.look 5 (.look 7 (.act 2 [4, 5] (.act 3 [4, 5] (.act 6 [] (.act 8 [] (.act 9 [] (.look 10 .done) .stop) .stop) .stop) .stop) (.act 3 [0, 1, 4, 5] (.act 2 [4, 5] (.act 6 [] (.act 8 [] (.act 9 [] (.look 10 .done) .stop) .stop) .stop) (.act 6 [0, 1] (.act 2 [] (.act 8 [] (.act 9 [] (.look 10 .done) .stop) .stop) .stop) .stop)) .stop))))))) mixed ?hB ?_; (case hB => decide +kernel); simp only [Flow.q1, Flow.q2, Flow.q5, Flow.q6, Flow.q7, Flow.q8, Flow.q9, Flow.wpFT, Flow.Tr.map, Flow.SameAll]) | (with_reducible refine Flow.region_flow (id := 8) [0, 0, 2, 6, 14, 0, 32, 0, 224, 480, 992, 2016, 4094, 8191, 16383, 32767] 40768 24604 [(0, none), (1, none), (2, none), (3, none), (4, none), (5, none), (7, none), (6, some [2, 3, 4]), (8, some [2, 3, 4]), (9, some [2, 3, 4]), (10, some [2, 3, 4]), (11, some [2, 3, 4]), (12, some []), (13, none), (14, none), (15, some [])] mixed ?hB ?_; (case hB => decide +kernel); simp only [Flow.textOf, Flow.q1, Flow.q2, Flow.q3, Flow.q4, Flow.q5, Flow.q6, Flow.q7, Flow.q8, Flow.q9, Flow.wpFl, Flow.SameAll]) | (refine Flow.region_still mixed ?hB ?_; (case hB => decide +kernel))))
    obtain ⟨wD, hwD, hfD⟩ : ∃ wD, wD = wC.alloc (.cells #[.slice none 0 0, .slice (some ⟨w.heap.size + 1, 0, none⟩) words words, .slice oa locks oc, .slice none 0 0, .int .i64 (room : Int)] 110) ∧ Fr (fun _ => False) wC wD := ⟨_, rfl, by (with_reducible repeat' (first | exact Fr.refl _ _ | apply Fr.alloc | apply Fr.drew | apply Fr.drewN | refine Fr.setCell ?_ ?_ _))⟩
    have hbD : Blk wD wC.heap.size #[.slice none 0 0, .slice (some ⟨w.heap.size + 1, 0, none⟩) words words, .slice oa locks oc, .slice none 0 0, .int .i64 (room : Int)] 110 := by rw [hwD]; exact Blk.new wC _ _
    obtain ⟨kc, wE, hcp, hmE, hfE, hsE⟩ := copy_mem (cm := cm) (HMB2.out.fr hfD (fun h => h)) (HM.out.fr (HF2.out.trans hfD (fun _ _ h => h)) (fun _ _ h => h)) hmn HL.out
    rw [← hwD, hcp]
    simp only [Result.andThen, Oper.upon]
    have hmblt := HMB2.out.lt
    have hneB : wC.heap.size ≠ w.heap.size + 1 := by omega
    have hbE := hbD.fr hfE hneB
    have htyM : tyAt wD (w.heap.size + 1) = some 2 := ty_blk (HMB2.out.fr hfD (fun h => h))
    have hoE := own_frN (HO2.out.fr hfD (fun _ _ h => h)) hfE (fun k hk e => by rw [hk, htyM] at e; exact absurd (Option.some.inj e) (by decide))
    have hsD : wD.heap.size = wC.heap.size + 1 := by rw [hwD]; simp
    have hrun : MRep wE wC.heap.size (fun z => w.heap.size ≤ z ∧ z < wE.heap.size) [] (fun _ _ => False) (start [] words mem locks room) :=
      noTh_rep hbE ⟨Nat.le_refl _, by unfold maxLen; omega, by rw [ints_length, memInit_length]; omega, .inr ⟨w.heap.size + 1, 0, _, rfl, ⟨by omega, by rw [hsE, hsD]; omega⟩, hmE, by simp [ints_length, memInit_length], by simp only [List.drop_zero, Nat.mul_one]; exact List.take_of_length_le (by rw [ints_length, memInit_length]; exact Nat.le_refl _)⟩⟩ (memInit_length _ _) (by simpa [ints] using hoE.mono (fun k hk h => ⟨h, hk⟩)) ⟨by omega, by rw [hsE, hsD]; omega⟩ (fun k hk => hk.2)
    have HRUN := hid hrun
    have HFE := hid ((HF2.out.trans hfD (fun _ _ h => h)).trans hfE (fun k hk e => by omega))
    have hxE := (HX2.out.fr hfD (fun h => h)).fr hfE (by omega)
    have HXE := hid hxE
    have hgtB : w.heap.size < wC.heap.size := by have := HX2.out.lt; omega
    clear hxE hrun hoE htyM hbE hmE hfE hbD hfD hwD hcp HX2 HMB2 HO2 HF2 hneB hmblt
    go_wp2_with (first | still_step | (with_reducible first | refine wpStill_nil ?_ | refine Flow.Both.mk ?_ ?_ | exact True.intro) | (with_reducible refine Flow.same_mk rfl rfl rfl ?_; go_simp; done) | (with_reducible exact Flow.same_un rfl rfl rfl) | (with_reducible refine Flow.region_fork (id := 1) [0, 1, 3, 0, 0, 16, 56, 0, 255, 511, 1023] 844 51 (.look 0 (.look 1 (.look 4 (.look 5 (.look 7 (.act 2 [4, 5] (.act 3 [4, 5] (.act 6 [] (.act 8 [] (.act 9 [] (.look 10 .done) .stop) .stop) .stop) .stop) (.act 3 [0, 1, 4, 5] (.act 2 [4, 5] (.act 6 [] (.act 8 [] (.act 9 [] (.look 10 .done) .stop) .stop) .stop) (.act 6 [0, 1] (.act 2 [] (.act 8 [] (.act 9 [] (.look 10 .done) .stop) .stop) .stop) .stop)) .stop))))))) mixed ?hB ?_; (case hB => decide +kernel); simp only [Flow.q1, Flow.q2, Flow.q5, Flow.q6, Flow.q7, Flow.q8, Flow.q9, Flow.wpFT, Flow.Tr.map, Flow.SameAll]) | (with_reducible refine Flow.region_flow (id := 8) [0, 0, 2, 6, 14, 0, 32, 0, 224, 480, 992, 2016, 4094, 8191, 16383, 32767] 40768 24604 [(0, none), (1, none), (2, none), (3, none), (4, none), (5, none), (7, none), (6, some [2, 3, 4]), (8, some [2, 3, 4]), (9, some [2, 3, 4]), (10, some [2, 3, 4]), (11, some [2, 3, 4]), (12, some []), (13, none), (14, none), (15, some [])] mixed ?hB ?_; (case hB => decide +kernel); simp only [Flow.textOf, Flow.q1, Flow.q2, Flow.q3, Flow.q4, Flow.q5, Flow.q6, Flow.q7, Flow.q8, Flow.q9, Flow.wpFl, Flow.SameAll]) | (refine Flow.region_still mixed ?hB ?_; (case hB => decide +kernel)))
    go_at_call 53
    refine (new_all (room : Int) _).mono ?_
    rintro e wF ⟨rfl, hfF, _⟩
    rw [if_pos (by omega)]
    have hfF' := (show Fr (fun _ => False) wE _ by (with_reducible repeat' (first | exact Fr.refl _ _ | apply Fr.alloc | apply Fr.drew | apply Fr.drewN | refine Fr.setCell ?_ ?_ _))).trans hfF (fun _ _ h => h)
    have HRUN2 := hid ((HRUN.out.fr hfF' (fun _ _ h => h)).mono (R2 := fun z => w.heap.size ≤ z ∧ z < wF.heap.size) (fun k h => ⟨h.1, Nat.lt_of_lt_of_le h.2 hfF'.size⟩) (fun k h => h.2))
    have HF5 := hid (HFE.out.trans hfF' (fun _ _ h => h))
    have hx5 := HXE.out.fr hfF' (fun h => h)
    have c0_i := hx5.cell 0
    have l_i := hx5.lt
    clear hx5 HXE HRUN HFE hfF hfF'
    go_wp2_with (first | still_step | (with_reducible first | refine wpStill_nil ?_ | refine Flow.Both.mk ?_ ?_ | exact True.intro) | (with_reducible refine Flow.same_mk rfl rfl rfl ?_; go_simp; done) | (with_reducible exact Flow.same_un rfl rfl rfl) | (with_reducible refine Flow.region_fork (id := 1) [0, 1, 3, 0, 0, 16, 56, 0, 255, 511, 1023] 844 51 (.look 0 (.look 1 (.look 4 (.look 5 (.look 7 (.act 2 [4, 5] (.act 3 [4, 5] (.act 6 [] (.act 8 [] (.act 9 [] (.look 10 .done) .stop) .stop) .stop) .stop) (.act 3 [0, 1, 4, 5] (.act 2 [4, 5] (.act 6 [] (.act 8 [] (.act 9 [] (.look 10 .done) .stop) .stop) .stop) (.act 6 [0, 1] (.act 2 [] (.act 8 [] (.act 9 [] (.look 10 .done) .stop) .stop) .stop) .stop)) .stop))))))) mixed ?hB ?_; (case hB => decide +kernel); simp only [Flow.q1, Flow.q2, Flow.q5, Flow.q6, Flow.q7, Flow.q8, Flow.q9, Flow.wpFT, Flow.Tr.map, Flow.SameAll]) | (with_reducible refine Flow.region_flow (id := 8) [0, 0, 2, 6, 14, 0, 32, 0, 224, 480, 992, 2016, 4094, 8191, 16383, 32767] 40768 24604 [(0, none), (1, none), (2, none), (3, none), (4, none), (5, none), (7, none), (6, some [2, 3, 4]), (8, some [2, 3, 4]), (9, some [2, 3, 4]), (10, some [2, 3, 4]), (11, some [2, 3, 4]), (12, some []), (13, none), (14, none), (15, some [])] mixed ?hB ?_; (case hB => decide +kernel); simp only [Flow.textOf, Flow.q1, Flow.q2, Flow.q3, Flow.q4, Flow.q5, Flow.q6, Flow.q7, Flow.q8, Flow.q9, Flow.wpFl, Flow.SameAll]) | (refine Flow.region_still mixed ?hB ?_; (case hB => decide +kernel)))
    have hBl0 : wC.heap.size < wF.heap.size := by have := HRUN2.out.lt _ HRUN2.out.inB; omega
    go_loopw [32] (fun i wr => ∃ (k : Nat) (ids : List (Nat × Nat)), k ≤ L2 ∧ i = .int .i64 k ∧ MR wr (fun z => w.heap.size ≤ z ∧ z < wr.heap.size) wC.heap.size ids (start ((qs.take k).map (·.2)) words mem locks room) ∧ Fr (fun _ => False) w wr) (fun i _ => L2 - (intOf i).toNat)
    case atStart => exact ⟨0, [], Nat.zero_le _, rfl, ⟨_, by simpa using HRUN2.out⟩, HF5.out⟩
    case round =>
      obtain ⟨k, ids, hk, rfl, ⟨Q, hr1⟩, hf⟩ := hrel
      have HR1 := hid hr1
      have HF1 := hid hf
      clear hr1 hf HRUN2 HF5 c0_i l_i
      by_cases hlt : k < L2
      · have hkl : k < qs.length := by have := HL2.out; omega
        obtain ⟨r, off, rfl, hcell⟩ := (HC.out.fr HF1.out (fun _ _ h => h)).cell hkl
        have hin := (HC.out.fr HF1.out (fun _ _ h => h)).inn qs[k] (List.getElem_mem hkl)
        have hi2 := HI.out qs[k] (List.getElem_mem hkl)
        have htk : (qs.take (k + 1)).map (·.2) = (qs.take k).map (·.2) ++ [qs[k].2] := by rw [List.take_succ_eq_append_getElem hkl, List.map_append]; rfl
        obtain ⟨⟨⟨sp, sc⟩, code⟩, hq2⟩ : ∃ q, q = qs[k] := ⟨_, rfl⟩
        rw [← hq2] at hcell hin hi2 htk
        dsimp only at hcell hin hi2 htk
        obtain ⟨ta, tc, ma2, mc2, oa2, oc2, ea2, ec2, hB, hO, _⟩ := HR1.out.head
        have b0 : wr.cell? ⟨wC.heap.size, 0, none⟩ = some (.slice ta ids.length tc) := (hB.cell 0).trans rfl
        have c0 := hB.free 0
        have HB := hid hB
        have HIN := hid hin
        have HTK := hid htk
        have hBl := hB.lt
        have hlen := HR1.out.len
        have hil : ids.length = k := by rw [hlen]; unfold start; simp; omega
        obtain ⟨S, hOS, hS⟩ := OwnAt.tight hO
        have HOS := hid hOS
        have HS := hid hS
        have HIL := hid hil
        obtain ⟨i0, hi0, hz0, hz1, hz2⟩ := info_parts infoPTH
        clear hB hin htk hq2 hlen hOS hS hil hO
        go_wp2_with (first | still_step | (with_reducible first | refine wpStill_nil ?_ | refine Flow.Both.mk ?_ ?_ | exact True.intro) | (with_reducible refine Flow.same_mk rfl rfl rfl ?_; go_simp; done) | (with_reducible exact Flow.same_un rfl rfl rfl) | (with_reducible refine Flow.region_fork (id := 1) [0, 1, 3, 0, 0, 16, 56, 0, 255, 511, 1023] 844 51 (.look 0 (.look 1 (.look 4 (.look 5 (.look 7 (.act 2 [4, 5] (.act 3 [4, 5] (.act 6 [] (.act 8 [] (.act 9 [] (.look 10 .done) .stop) .stop) .stop) .stop) (.act 3 [0, 1, 4, 5] (.act 2 [4, 5] (.act 6 [] (.act 8 [] (.act 9 [] (.look 10 .done) .stop) .stop) .stop) (.act 6 [0, 1] (.act 2 [] (.act 8 [] (.act 9 [] (.look 10 .done) .stop) .stop) .stop) .stop)) .stop))))))) mixed ?hB ?_; (case hB => decide +kernel); simp only [Flow.q1, Flow.q2, Flow.q5, Flow.q6, Flow.q7, Flow.q8, Flow.q9, Flow.wpFT, Flow.Tr.map, Flow.SameAll]) | (with_reducible refine Flow.region_flow (id := 8) [0, 0, 2, 6, 14, 0, 32, 0, 224, 480, 992, 2016, 4094, 8191, 16383, 32767] 40768 24604 [(0, none), (1, none), (2, none), (3, none), (4, none), (5, none), (7, none), (6, some [2, 3, 4]), (8, some [2, 3, 4]), (9, some [2, 3, 4]), (10, some [2, 3, 4]), (11, some [2, 3, 4]), (12, some []), (13, none), (14, none), (15, some [])] mixed ?hB ?_; (case hB => decide +kernel); simp only [Flow.textOf, Flow.q1, Flow.q2, Flow.q3, Flow.q4, Flow.q5, Flow.q6, Flow.q7, Flow.q8, Flow.q9, Flow.wpFl, Flow.SameAll]) | (refine Flow.region_still mixed ?hB ?_; (case hB => decide +kernel)))
        go_at_call 53
        refine (new_all (room : Int) _).mono ?_
        rintro e w3 ⟨rfl, hf3, hbuf⟩
        rw [if_pos (by omega)]
        have hb3 := hbuf (by omega)
        have hf3' := (show Fr (fun _ => False) wr _ by (with_reducible repeat' (first | exact Fr.refl _ _ | apply Fr.alloc | apply Fr.drew | apply Fr.drewN | refine Fr.setCell ?_ ?_ _))).trans hf3 (fun _ _ h => h)
        have b0_ := Fr.cell hf3' b0 (fun h => h)
        clear b0
        have b0 := b0_
        clear b0_
        have c03 := (hf3'.frozen (a := ⟨wC.heap.size, 0, none⟩) hBl (fun h => h)).trans c0
        have HF3 := hid hf3'
        have HB3 := hid (show BufRep w3 wr.heap.size (fun _ => False) room [] by simpa using hb3)
        have hl3 := hf3'.size
        have hbl3 := hb3.lt
        have hBl3 : wC.heap.size < w3.heap.size := by omega
        clear hbuf hb3 hf3 hf3' c0
        go_wp2_with (first | still_step | (with_reducible first | refine wpStill_nil ?_ | refine Flow.Both.mk ?_ ?_ | exact True.intro) | (with_reducible refine Flow.same_mk rfl rfl rfl ?_; go_simp; done) | (with_reducible exact Flow.same_un rfl rfl rfl) | (with_reducible refine Flow.region_fork (id := 1) [0, 1, 3, 0, 0, 16, 56, 0, 255, 511, 1023] 844 51 (.look 0 (.look 1 (.look 4 (.look 5 (.look 7 (.act 2 [4, 5] (.act 3 [4, 5] (.act 6 [] (.act 8 [] (.act 9 [] (.look 10 .done) .stop) .stop) .stop) .stop) (.act 3 [0, 1, 4, 5] (.act 2 [4, 5] (.act 6 [] (.act 8 [] (.act 9 [] (.look 10 .done) .stop) .stop) .stop) (.act 6 [0, 1] (.act 2 [] (.act 8 [] (.act 9 [] (.look 10 .done) .stop) .stop) .stop) .stop)) .stop))))))) mixed ?hB ?_; (case hB => decide +kernel); simp only [Flow.q1, Flow.q2, Flow.q5, Flow.q6, Flow.q7, Flow.q8, Flow.q9, Flow.wpFT, Flow.Tr.map, Flow.SameAll]) | (with_reducible refine Flow.region_flow (id := 8) [0, 0, 2, 6, 14, 0, 32, 0, 224, 480, 992, 2016, 4094, 8191, 16383, 32767] 40768 24604 [(0, none), (1, none), (2, none), (3, none), (4, none), (5, none), (7, none), (6, some [2, 3, 4]), (8, some [2, 3, 4]), (9, some [2, 3, 4]), (10, some [2, 3, 4]), (11, some [2, 3, 4]), (12, some []), (13, none), (14, none), (15, some [])] mixed ?hB ?_; (case hB => decide +kernel); simp only [Flow.textOf, Flow.q1, Flow.q2, Flow.q3, Flow.q4, Flow.q5, Flow.q6, Flow.q7, Flow.q8, Flow.q9, Flow.wpFl, Flow.SameAll]) | (refine Flow.region_still mixed ?hB ?_; (case hB => decide +kernel)))
        go_at_call 54
        refine (clone_code Rc sp code.length sc (codeC code) _ (HIN.out.1.fr (S := fun _ => False) (by first | exact HF3.out | exact HF3.out.drew) (fun _ _ h => h)) HIN.out.2 (codeC_one code) (by omega)).mono ?_
        rintro e w4 ⟨ca, cc, rfl, ho4, hf4, _⟩
        have hf4' := (show Fr (fun _ => False) w3 _ by (with_reducible repeat' (first | exact Fr.refl _ _ | apply Fr.alloc | apply Fr.drew | apply Fr.drewN | refine Fr.setCell ?_ ?_ _))).trans hf4 (fun _ _ h => h)
        have b0_ := Fr.cell hf4' b0 (fun h => h)
        clear b0
        have b0 := b0_
        clear b0_
        have c04 := (hf4'.frozen (a := ⟨wC.heap.size, 0, none⟩) hBl3 (fun h => h)).trans c03
        have HF4 := hid (HF3.out.trans hf4' (fun _ _ h => h))
        have HB4 := hid (HB3.out.fr hf4' (fun h => h) (fun _ h => h.elim))
        have HO4 := hid (ho4.mono (R2 := fun z => w3.heap.size ≤ z) (fun z _ h => by (try simp at h); exact h))
        have hl4 := hf4'.size
        have hBl4 : wC.heap.size < w4.heap.size := by omega
        have hBn4 : wC.heap.size ≠ w4.heap.size := by omega
        have hBn5 : ¬ (wC.heap.size = w4.heap.size) := hBn4
        have hBn6 : ¬ (wC.heap.size = w4.heap.size + 1) := by omega
        clear ho4 hf4 hf4' HB3 HF3 c03
        obtain ⟨wz, hwz⟩ : ∃ wz, wz = (w4.alloc (.cells #[.pointer (some ⟨wr.heap.size, 0, none⟩), .slice ca code.length cc, .int .i64 0, .int .i64 0, .int .i64 0, .int .i64 0, .int .i64 0, .int .i64 0, .int .i64 0, .int .i64 0, .int .i64 0, .int .i64 0, .int .i64 0, .int .i64 0, .int .i64 0, .int .i64 0, .int .i64 0, .int .i64 0, .int .i64 0, .bool false] 116)).alloc (.cells #[.pointer (some ⟨w4.heap.size, 0, none⟩)] 113) := ⟨_, rfl⟩
        have HWZ := hid hwz
        clear hwz
        have HFZ := hid (show Fr (fun _ => False) w4 wz by rw [HWZ.out]; (with_reducible repeat' (first | exact Fr.refl _ _ | apply Fr.alloc | apply Fr.drew | apply Fr.drewN | refine Fr.setCell ?_ ?_ _)))
        go_wp2_with (first | (at_builtin; rw [← HWZ.out]; refine wpList_append_Own _ rfl (.tmp 40) (.tmp 47) 108 rfl 113 i0 (.pointer none) 1 8 Try.underlying108 hi0 hz0 hz1 hz2 rfl (by decide) S (fun z => z = w4.heap.size + 1) ta ids.length tc (ids.map fun p => Value.pointer (some ⟨p.1, 0, none⟩)) rfl (HOS.out.fr (HF4.out.trans HFZ.out (fun _ _ h => h)) (fun _ _ h => h)) (some ⟨w4.heap.size + 1, 0, none⟩) 1 1 [.pointer (some ⟨w4.heap.size, 0, none⟩)] rfl ?vw (by simp [Value.oneCell']) ?b1 ?b2 ?grow) | still_step | (with_reducible first | refine wpStill_nil ?_ | refine Flow.Both.mk ?_ ?_ | exact True.intro) | (with_reducible refine Flow.same_mk rfl rfl rfl ?_; go_simp; done) | (with_reducible exact Flow.same_un rfl rfl rfl) | (with_reducible refine Flow.region_fork (id := 1) [0, 1, 3, 0, 0, 16, 56, 0, 255, 511, 1023] 844 51 (.look 0 (.look 1 (.look 4 (.look 5 (.look 7 (.act 2 [4, 5] (.act 3 [4, 5] (.act 6 [] (.act 8 [] (.act 9 [] (.look 10 .done) .stop) .stop) .stop) .stop) (.act 3 [0, 1, 4, 5] (.act 2 [4, 5] (.act 6 [] (.act 8 [] (.act 9 [] (.look 10 .done) .stop) .stop) .stop) (.act 6 [0, 1] (.act 2 [] (.act 8 [] (.act 9 [] (.look 10 .done) .stop) .stop) .stop) .stop)) .stop))))))) mixed ?hB ?_; (case hB => decide +kernel); simp only [Flow.q1, Flow.q2, Flow.q5, Flow.q6, Flow.q7, Flow.q8, Flow.q9, Flow.wpFT, Flow.Tr.map, Flow.SameAll]) | (with_reducible refine Flow.region_flow (id := 8) [0, 0, 2, 6, 14, 0, 32, 0, 224, 480, 992, 2016, 4094, 8191, 16383, 32767] 40768 24604 [(0, none), (1, none), (2, none), (3, none), (4, none), (5, none), (7, none), (6, some [2, 3, 4]), (8, some [2, 3, 4]), (9, some [2, 3, 4]), (10, some [2, 3, 4]), (11, some [2, 3, 4]), (12, some []), (13, none), (14, none), (15, some [])] mixed ?hB ?_; (case hB => decide +kernel); simp only [Flow.textOf, Flow.q1, Flow.q2, Flow.q3, Flow.q4, Flow.q5, Flow.q6, Flow.q7, Flow.q8, Flow.q9, Flow.wpFl, Flow.SameAll]) | (refine Flow.region_still mixed ?hB ?_; (case hB => decide +kernel)))
        case vw => exact Vw.of_blk (C := #[.pointer (some ⟨w4.heap.size, 0, none⟩)]) (T := 113) (by rw [HWZ.out]; exact Blk.new' (by simp)) rfl rfl
        case b1 => have := HIL.out; unfold maxLen; omega
        case b2 => have := HIL.out; omega
        case grow =>
          intro ta' tc' w5 ho5 hf5
          have hbt : Blk wz w4.heap.size (thC wr.heap.size ca cc (newTh code)).toArray 116 := by rw [HWZ.out]; exact (Blk.new w4 _ _).alloc _
          have hz3 : wz.heap.size = w4.heap.size + 2 := by rw [HWZ.out]; simp
          have hth : ThRep wz (fun z => wr.heap.size ≤ z ∧ z < wz.heap.size) (fun _ => False) w4.heap.size wr.heap.size room (newTh code) :=
            ⟨by simp [newTh], ⟨ca, cc, hbt, (HO4.out.mono (R2 := fun z => wr.heap.size ≤ z ∧ z < wz.heap.size) (fun z hz h => ⟨by omega, by omega⟩)).fr HFZ.out (fun _ _ h => h)⟩, HB4.out.fr HFZ.out (fun h => h) (fun _ h => h.elim)⟩
          have hadd := addTh HR1.out (HF4.out.trans HFZ.out (fun _ _ h => h)) HB.out (fun z hz => ⟨(HS.out z hz).1, (HS.out z hz).2.1⟩) hf5 (t := newTh code) (by omega) (by omega) hth ho5
          have hsb : ∀ z, S z → w.heap.size ≤ z := fun z hz => (HS.out z hz).1.1
          have HADD := hid hadd
          have hSB : ¬ S wC.heap.size := fun hk => by have := (ty_blk HB.out).symm.trans (HS.out _ hk).2.1; exact absurd (Option.some.inj this) (by decide)
          have hFz5 := (HF4.out.trans HFZ.out (fun _ _ h => h)).mono (S2 := S) (fun _ _ h => h.elim) |>.trans hf5 (fun _ _ h => h)
          have b05 := hFz5.cell ((HB.out.cell 0).trans rfl) hSB
          have c05 := (hFz5.frozen (a := ⟨wC.heap.size, 0, none⟩) hBl hSB).trans (HB.out.free 0)
          have hl5 := hf5.size
          have HFZ5 := hid ((HF1.out.trans HF4.out (fun _ _ h => h)).trans HFZ.out (fun _ _ h => h))
          clear hadd hth hbt hf5 ho5 hFz5 b0 c04
          go_wp2_with (first | still_step | (with_reducible first | refine wpStill_nil ?_ | refine Flow.Both.mk ?_ ?_ | exact True.intro) | (with_reducible refine Flow.same_mk rfl rfl rfl ?_; go_simp; done) | (with_reducible exact Flow.same_un rfl rfl rfl) | (with_reducible refine Flow.region_fork (id := 1) [0, 1, 3, 0, 0, 16, 56, 0, 255, 511, 1023] 844 51 (.look 0 (.look 1 (.look 4 (.look 5 (.look 7 (.act 2 [4, 5] (.act 3 [4, 5] (.act 6 [] (.act 8 [] (.act 9 [] (.look 10 .done) .stop) .stop) .stop) .stop) (.act 3 [0, 1, 4, 5] (.act 2 [4, 5] (.act 6 [] (.act 8 [] (.act 9 [] (.look 10 .done) .stop) .stop) .stop) (.act 6 [0, 1] (.act 2 [] (.act 8 [] (.act 9 [] (.look 10 .done) .stop) .stop) .stop) .stop)) .stop))))))) mixed ?hB ?_; (case hB => decide +kernel); simp only [Flow.q1, Flow.q2, Flow.q5, Flow.q6, Flow.q7, Flow.q8, Flow.q9, Flow.wpFT, Flow.Tr.map, Flow.SameAll]) | (with_reducible refine Flow.region_flow (id := 8) [0, 0, 2, 6, 14, 0, 32, 0, 224, 480, 992, 2016, 4094, 8191, 16383, 32767] 40768 24604 [(0, none), (1, none), (2, none), (3, none), (4, none), (5, none), (7, none), (6, some [2, 3, 4]), (8, some [2, 3, 4]), (9, some [2, 3, 4]), (10, some [2, 3, 4]), (11, some [2, 3, 4]), (12, some []), (13, none), (14, none), (15, some [])] mixed ?hB ?_; (case hB => decide +kernel); simp only [Flow.textOf, Flow.q1, Flow.q2, Flow.q3, Flow.q4, Flow.q5, Flow.q6, Flow.q7, Flow.q8, Flow.q9, Flow.wpFl, Flow.SameAll]) | (refine Flow.region_still mixed ?hB ?_; (case hB => decide +kernel)))
          go_roundw
          case rel =>
            refine ⟨k + 1, ids ++ [(w4.heap.size, wr.heap.size)], by omega, by go_num, ?_, HFZ5.out.trans (S := fun _ => False) HADD.out.2 (fun z hz h => ?_)⟩
            · rw [HTK.out]
              obtain ⟨Q', hq'⟩ := HADD.out.1
              refine ⟨Q', MRep.mono (R := fun z => (w.heap.size ≤ z ∧ z < wr.heap.size) ∨ (wr.heap.size ≤ z ∧ z < w5.heap.size)) ?_ (fun z h => by have := HF1.out.size; simp; omega) (fun z h => h.2)⟩
              simpa [start] using hq'
            · rcases h with h | h
              · exact absurd (hsb z h) (by omega)
              · exact absurd h (by omega)
          case measure => simp [intOf]; omega
      · obtain rfl : k = L2 := by omega
        have hr := HR1.out
        rw [List.take_of_length_le (by have := HL2.out; omega)] at hr
        have HR2 := hid hr
        clear hr
        go_wp2_with (first | still_step | (with_reducible first | refine wpStill_nil ?_ | refine Flow.Both.mk ?_ ?_ | exact True.intro) | (with_reducible refine Flow.same_mk rfl rfl rfl ?_; go_simp; done) | (with_reducible exact Flow.same_un rfl rfl rfl) | (with_reducible refine Flow.region_fork (id := 1) [0, 1, 3, 0, 0, 16, 56, 0, 255, 511, 1023] 844 51 (.look 0 (.look 1 (.look 4 (.look 5 (.look 7 (.act 2 [4, 5] (.act 3 [4, 5] (.act 6 [] (.act 8 [] (.act 9 [] (.look 10 .done) .stop) .stop) .stop) .stop) (.act 3 [0, 1, 4, 5] (.act 2 [4, 5] (.act 6 [] (.act 8 [] (.act 9 [] (.look 10 .done) .stop) .stop) .stop) (.act 6 [0, 1] (.act 2 [] (.act 8 [] (.act 9 [] (.look 10 .done) .stop) .stop) .stop) .stop)) .stop))))))) mixed ?hB ?_; (case hB => decide +kernel); simp only [Flow.q1, Flow.q2, Flow.q5, Flow.q6, Flow.q7, Flow.q8, Flow.q9, Flow.wpFT, Flow.Tr.map, Flow.SameAll]) | (with_reducible refine Flow.region_flow (id := 8) [0, 0, 2, 6, 14, 0, 32, 0, 224, 480, 992, 2016, 4094, 8191, 16383, 32767] 40768 24604 [(0, none), (1, none), (2, none), (3, none), (4, none), (5, none), (7, none), (6, some [2, 3, 4]), (8, some [2, 3, 4]), (9, some [2, 3, 4]), (10, some [2, 3, 4]), (11, some [2, 3, 4]), (12, some []), (13, none), (14, none), (15, some [])] mixed ?hB ?_; (case hB => decide +kernel); simp only [Flow.textOf, Flow.q1, Flow.q2, Flow.q3, Flow.q4, Flow.q5, Flow.q6, Flow.q7, Flow.q8, Flow.q9, Flow.wpFl, Flow.SameAll]) | (refine Flow.region_still mixed ?hB ?_; (case hB => decide +kernel)))
        go_ret
        exact ⟨_, _, rfl, ⟨_, HR2.out⟩, HF1.out⟩
  · refine (rep_is locks hlk (w.heap.size + 1) 0 1 (-1) _ (HFA.out.cell (by go_simp) (fun h => h))).mono ?_
    rintro e wC ⟨oa, oc, rfl, hoC, hfC⟩
    have hfAC : Fr (fun _ => False) wA wC := hfC
    have hfwA := (show Fr (fun _ => False) w _ by (with_reducible repeat' (first | exact Fr.refl _ _ | apply Fr.alloc | apply Fr.drew | apply Fr.drewN | refine Fr.setCell ?_ ?_ _))).trans HFA.out (fun _ _ h => h)
    have hx := HX.out.fr hfAC (fun h => h)
    have hs0 := hfAC.size
    have hs1 := hfwA.size
    have hs2 := HX.out.lt
    have hmb : Blk wC (w.heap.size + 1 + 1) (List.replicate words (.int .i64 0)).toArray 2 := by have := HMB.out.fr hfAC (fun h => h); simpa using this
    have HX2 := hid hx
    have HMB2 := hid hmb
    have HO2 := hid (hoC.mono (R2 := fun k => w.heap.size ≤ k) (fun k _ h => by (try simp at h); omega))
    have HF2 := hid (hfwA.trans hfAC (fun _ _ h => h))
    clear hx hmb hoC hfAC hfwA HX HMB
    (try clear hfC)
    (try clear HFA)
    (try clear HSA)
    (try go_wp2_with (first | still_step | (with_reducible first | refine wpStill_nil ?_ | refine Flow.Both.mk ?_ ?_ | exact True.intro) | (with_reducible refine Flow.same_mk rfl rfl rfl ?_; go_simp; done) | (with_reducible exact Flow.same_un rfl rfl rfl) | (with_reducible refine Flow.region_fork (id := 1) [0, 1, 3, 0, 0, 16, 56, 0, 255, 511, 1023] 844 51 (.look 0 (.look 1 (.look 4 (.look 5 (.look 7 (.act 2 [4, 5] (.act 3 [4, 5] (.act 6 [] (.act 8 [] (.act 9 [] (.look 10 .done) .stop) .stop) .stop) .stop) (.act 3 [0, 1, 4, 5] (.act 2 [4, 5] (.act 6 [] (.act 8 [] (.act 9 [] (.look 10 .done) .stop) .stop) .stop) (.act 6 [0, 1] (.act 2 [] (.act 8 [] (.act 9 [] (.look 10 .done) .stop) .stop) .stop) .stop)) .stop))))))) mixed ?hB ?_; (case hB => decide +kernel); simp only [Flow.q1, Flow.q2, Flow.q5, Flow.q6, Flow.q7, Flow.q8, Flow.q9, Flow.wpFT, Flow.Tr.map, Flow.SameAll]) | (with_reducible refine Flow.region_flow (id := 8) [0, 0, 2, 6, 14, 0, 32, 0, 224, 480, 992, 2016, 4094, 8191, 16383, 32767] 40768 24604 [(0, none), (1, none), (2, none), (3, none), (4, none), (5, none), (7, none), (6, some [2, 3, 4]), (8, some [2, 3, 4]), (9, some [2, 3, 4]), (10, some [2, 3, 4]), (11, some [2, 3, 4]), (12, some []), (13, none), (14, none), (15, some [])] mixed ?hB ?_; (case hB => decide +kernel); simp only [Flow.textOf, Flow.q1, Flow.q2, Flow.q3, Flow.q4, Flow.q5, Flow.q6, Flow.q7, Flow.q8, Flow.q9, Flow.wpFl, Flow.SameAll]) | (refine Flow.region_still mixed ?hB ?_; (case hB => decide +kernel))))
    obtain ⟨wD, hwD, hfD⟩ : ∃ wD, wD = wC.alloc (.cells #[.slice none 0 0, .slice (some ⟨w.heap.size + 1 + 1, 0, none⟩) words words, .slice oa locks oc, .slice none 0 0, .int .i64 (room : Int)] 110) ∧ Fr (fun _ => False) wC wD := ⟨_, rfl, by (with_reducible repeat' (first | exact Fr.refl _ _ | apply Fr.alloc | apply Fr.drew | apply Fr.drewN | refine Fr.setCell ?_ ?_ _))⟩
    have hbD : Blk wD wC.heap.size #[.slice none 0 0, .slice (some ⟨w.heap.size + 1 + 1, 0, none⟩) words words, .slice oa locks oc, .slice none 0 0, .int .i64 (room : Int)] 110 := by rw [hwD]; exact Blk.new wC _ _
    obtain ⟨kc, wE, hcp, hmE, hfE, hsE⟩ := copy_mem (cm := cm) (HMB2.out.fr hfD (fun h => h)) (HM.out.fr (HF2.out.trans hfD (fun _ _ h => h)) (fun _ _ h => h)) hmn HL.out
    rw [← hwD, hcp]
    simp only [Result.andThen, Oper.upon]
    have hmblt := HMB2.out.lt
    have hneB : wC.heap.size ≠ w.heap.size + 1 + 1 := by omega
    have hbE := hbD.fr hfE hneB
    have htyM : tyAt wD (w.heap.size + 1 + 1) = some 2 := ty_blk (HMB2.out.fr hfD (fun h => h))
    have hoE := own_frN (HO2.out.fr hfD (fun _ _ h => h)) hfE (fun k hk e => by rw [hk, htyM] at e; exact absurd (Option.some.inj e) (by decide))
    have hsD : wD.heap.size = wC.heap.size + 1 := by rw [hwD]; simp
    have hrun : MRep wE wC.heap.size (fun z => w.heap.size ≤ z ∧ z < wE.heap.size) [] (fun _ _ => False) (start [] words mem locks room) :=
      noTh_rep hbE ⟨Nat.le_refl _, by unfold maxLen; omega, by rw [ints_length, memInit_length]; omega, .inr ⟨w.heap.size + 1 + 1, 0, _, rfl, ⟨by omega, by rw [hsE, hsD]; omega⟩, hmE, by simp [ints_length, memInit_length], by simp only [List.drop_zero, Nat.mul_one]; exact List.take_of_length_le (by rw [ints_length, memInit_length]; exact Nat.le_refl _)⟩⟩ (memInit_length _ _) (by simpa [ints] using hoE.mono (fun k hk h => ⟨h, hk⟩)) ⟨by omega, by rw [hsE, hsD]; omega⟩ (fun k hk => hk.2)
    have HRUN := hid hrun
    have HFE := hid ((HF2.out.trans hfD (fun _ _ h => h)).trans hfE (fun k hk e => by omega))
    have hxE := (HX2.out.fr hfD (fun h => h)).fr hfE (by omega)
    have HXE := hid hxE
    have hgtB : w.heap.size < wC.heap.size := by have := HX2.out.lt; omega
    clear hxE hrun hoE htyM hbE hmE hfE hbD hfD hwD hcp HX2 HMB2 HO2 HF2 hneB hmblt
    go_wp2_with (first | still_step | (with_reducible first | refine wpStill_nil ?_ | refine Flow.Both.mk ?_ ?_ | exact True.intro) | (with_reducible refine Flow.same_mk rfl rfl rfl ?_; go_simp; done) | (with_reducible exact Flow.same_un rfl rfl rfl) | (with_reducible refine Flow.region_fork (id := 1) [0, 1, 3, 0, 0, 16, 56, 0, 255, 511, 1023] 844 51 (.look 0 (.look 1 (.look 4 (.look 5 (.look 7 (.act 2 [4, 5] (.act 3 [4, 5] (.act 6 [] (.act 8 [] (.act 9 [] (.look 10 .done) .stop) .stop) .stop) .stop) (.act 3 [0, 1, 4, 5] (.act 2 [4, 5] (.act 6 [] (.act 8 [] (.act 9 [] (.look 10 .done) .stop) .stop) .stop) (.act 6 [0, 1] (.act 2 [] (.act 8 [] (.act 9 [] (.look 10 .done) .stop) .stop) .stop) .stop)) .stop))))))) mixed ?hB ?_; (case hB => decide +kernel); simp only [Flow.q1, Flow.q2, Flow.q5, Flow.q6, Flow.q7, Flow.q8, Flow.q9, Flow.wpFT, Flow.Tr.map, Flow.SameAll]) | (with_reducible refine Flow.region_flow (id := 8) [0, 0, 2, 6, 14, 0, 32, 0, 224, 480, 992, 2016, 4094, 8191, 16383, 32767] 40768 24604 [(0, none), (1, none), (2, none), (3, none), (4, none), (5, none), (7, none), (6, some [2, 3, 4]), (8, some [2, 3, 4]), (9, some [2, 3, 4]), (10, some [2, 3, 4]), (11, some [2, 3, 4]), (12, some []), (13, none), (14, none), (15, some [])] mixed ?hB ?_; (case hB => decide +kernel); simp only [Flow.textOf, Flow.q1, Flow.q2, Flow.q3, Flow.q4, Flow.q5, Flow.q6, Flow.q7, Flow.q8, Flow.q9, Flow.wpFl, Flow.SameAll]) | (refine Flow.region_still mixed ?hB ?_; (case hB => decide +kernel)))
    go_at_call 53
    refine (new_all (room : Int) _).mono ?_
    rintro e wF ⟨rfl, hfF, _⟩
    rw [if_pos (by omega)]
    have hfF' := (show Fr (fun _ => False) wE _ by (with_reducible repeat' (first | exact Fr.refl _ _ | apply Fr.alloc | apply Fr.drew | apply Fr.drewN | refine Fr.setCell ?_ ?_ _))).trans hfF (fun _ _ h => h)
    have HRUN2 := hid ((HRUN.out.fr hfF' (fun _ _ h => h)).mono (R2 := fun z => w.heap.size ≤ z ∧ z < wF.heap.size) (fun k h => ⟨h.1, Nat.lt_of_lt_of_le h.2 hfF'.size⟩) (fun k h => h.2))
    have HF5 := hid (HFE.out.trans hfF' (fun _ _ h => h))
    have hx5 := HXE.out.fr hfF' (fun h => h)
    have c0_i := hx5.cell 0
    have l_i := hx5.lt
    clear hx5 HXE HRUN HFE hfF hfF'
    go_wp2_with (first | still_step | (with_reducible first | refine wpStill_nil ?_ | refine Flow.Both.mk ?_ ?_ | exact True.intro) | (with_reducible refine Flow.same_mk rfl rfl rfl ?_; go_simp; done) | (with_reducible exact Flow.same_un rfl rfl rfl) | (with_reducible refine Flow.region_fork (id := 1) [0, 1, 3, 0, 0, 16, 56, 0, 255, 511, 1023] 844 51 (.look 0 (.look 1 (.look 4 (.look 5 (.look 7 (.act 2 [4, 5] (.act 3 [4, 5] (.act 6 [] (.act 8 [] (.act 9 [] (.look 10 .done) .stop) .stop) .stop) .stop) (.act 3 [0, 1, 4, 5] (.act 2 [4, 5] (.act 6 [] (.act 8 [] (.act 9 [] (.look 10 .done) .stop) .stop) .stop) (.act 6 [0, 1] (.act 2 [] (.act 8 [] (.act 9 [] (.look 10 .done) .stop) .stop) .stop) .stop)) .stop))))))) mixed ?hB ?_; (case hB => decide +kernel); simp only [Flow.q1, Flow.q2, Flow.q5, Flow.q6, Flow.q7, Flow.q8, Flow.q9, Flow.wpFT, Flow.Tr.map, Flow.SameAll]) | (with_reducible refine Flow.region_flow (id := 8) [0, 0, 2, 6, 14, 0, 32, 0, 224, 480, 992, 2016, 4094, 8191, 16383, 32767] 40768 24604 [(0, none), (1, none), (2, none), (3, none), (4, none), (5, none), (7, none), (6, some [2, 3, 4]), (8, some [2, 3, 4]), (9, some [2, 3, 4]), (10, some [2, 3, 4]), (11, some [2, 3, 4]), (12, some []), (13, none), (14, none), (15, some [])] mixed ?hB ?_; (case hB => decide +kernel); simp only [Flow.textOf, Flow.q1, Flow.q2, Flow.q3, Flow.q4, Flow.q5, Flow.q6, Flow.q7, Flow.q8, Flow.q9, Flow.wpFl, Flow.SameAll]) | (refine Flow.region_still mixed ?hB ?_; (case hB => decide +kernel)))
    have hBl0 : wC.heap.size < wF.heap.size := by have := HRUN2.out.lt _ HRUN2.out.inB; omega
    go_loopw [32] (fun i wr => ∃ (k : Nat) (ids : List (Nat × Nat)), k ≤ L2 ∧ i = .int .i64 k ∧ MR wr (fun z => w.heap.size ≤ z ∧ z < wr.heap.size) wC.heap.size ids (start ((qs.take k).map (·.2)) words mem locks room) ∧ Fr (fun _ => False) w wr) (fun i _ => L2 - (intOf i).toNat)
    case atStart => exact ⟨0, [], Nat.zero_le _, rfl, ⟨_, by simpa using HRUN2.out⟩, HF5.out⟩
    case round =>
      obtain ⟨k, ids, hk, rfl, ⟨Q, hr1⟩, hf⟩ := hrel
      have HR1 := hid hr1
      have HF1 := hid hf
      clear hr1 hf HRUN2 HF5 c0_i l_i
      by_cases hlt : k < L2
      · have hkl : k < qs.length := by have := HL2.out; omega
        obtain ⟨r, off, rfl, hcell⟩ := (HC.out.fr HF1.out (fun _ _ h => h)).cell hkl
        have hin := (HC.out.fr HF1.out (fun _ _ h => h)).inn qs[k] (List.getElem_mem hkl)
        have hi2 := HI.out qs[k] (List.getElem_mem hkl)
        have htk : (qs.take (k + 1)).map (·.2) = (qs.take k).map (·.2) ++ [qs[k].2] := by rw [List.take_succ_eq_append_getElem hkl, List.map_append]; rfl
        obtain ⟨⟨⟨sp, sc⟩, code⟩, hq2⟩ : ∃ q, q = qs[k] := ⟨_, rfl⟩
        rw [← hq2] at hcell hin hi2 htk
        dsimp only at hcell hin hi2 htk
        obtain ⟨ta, tc, ma2, mc2, oa2, oc2, ea2, ec2, hB, hO, _⟩ := HR1.out.head
        have b0 : wr.cell? ⟨wC.heap.size, 0, none⟩ = some (.slice ta ids.length tc) := (hB.cell 0).trans rfl
        have c0 := hB.free 0
        have HB := hid hB
        have HIN := hid hin
        have HTK := hid htk
        have hBl := hB.lt
        have hlen := HR1.out.len
        have hil : ids.length = k := by rw [hlen]; unfold start; simp; omega
        obtain ⟨S, hOS, hS⟩ := OwnAt.tight hO
        have HOS := hid hOS
        have HS := hid hS
        have HIL := hid hil
        obtain ⟨i0, hi0, hz0, hz1, hz2⟩ := info_parts infoPTH
        clear hB hin htk hq2 hlen hOS hS hil hO
        go_wp2_with (first | still_step | (with_reducible first | refine wpStill_nil ?_ | refine Flow.Both.mk ?_ ?_ | exact True.intro) | (with_reducible refine Flow.same_mk rfl rfl rfl ?_; go_simp; done) | (with_reducible exact Flow.same_un rfl rfl rfl) | (with_reducible refine Flow.region_fork (id := 1) [0, 1, 3, 0, 0, 16, 56, 0, 255, 511, 1023] 844 51 (.look 0 (.look 1 (.look 4 (.look 5 (.look 7 (.act 2 [4, 5] (.act 3 [4, 5] (.act 6 [] (.act 8 [] (.act 9 [] (.look 10 .done) .stop) .stop) .stop) .stop) (.act 3 [0, 1, 4, 5] (.act 2 [4, 5] (.act 6 [] (.act 8 [] (.act 9 [] (.look 10 .done) .stop) .stop) .stop) (.act 6 [0, 1] (.act 2 [] (.act 8 [] (.act 9 [] (.look 10 .done) .stop) .stop) .stop) .stop)) .stop))))))) mixed ?hB ?_; (case hB => decide +kernel); simp only [Flow.q1, Flow.q2, Flow.q5, Flow.q6, Flow.q7, Flow.q8, Flow.q9, Flow.wpFT, Flow.Tr.map, Flow.SameAll]) | (with_reducible refine Flow.region_flow (id := 8) [0, 0, 2, 6, 14, 0, 32, 0, 224, 480, 992, 2016, 4094, 8191, 16383, 32767] 40768 24604 [(0, none), (1, none), (2, none), (3, none), (4, none), (5, none), (7, none), (6, some [2, 3, 4]), (8, some [2, 3, 4]), (9, some [2, 3, 4]), (10, some [2, 3, 4]), (11, some [2, 3, 4]), (12, some []), (13, none), (14, none), (15, some [])] mixed ?hB ?_; (case hB => decide +kernel); simp only [Flow.textOf, Flow.q1, Flow.q2, Flow.q3, Flow.q4, Flow.q5, Flow.q6, Flow.q7, Flow.q8, Flow.q9, Flow.wpFl, Flow.SameAll]) | (refine Flow.region_still mixed ?hB ?_; (case hB => decide +kernel)))
        go_at_call 53
        refine (new_all (room : Int) _).mono ?_
        rintro e w3 ⟨rfl, hf3, hbuf⟩
        rw [if_pos (by omega)]
        have hb3 := hbuf (by omega)
        have hf3' := (show Fr (fun _ => False) wr _ by (with_reducible repeat' (first | exact Fr.refl _ _ | apply Fr.alloc | apply Fr.drew | apply Fr.drewN | refine Fr.setCell ?_ ?_ _))).trans hf3 (fun _ _ h => h)
        have b0_ := Fr.cell hf3' b0 (fun h => h)
        clear b0
        have b0 := b0_
        clear b0_
        have c03 := (hf3'.frozen (a := ⟨wC.heap.size, 0, none⟩) hBl (fun h => h)).trans c0
        have HF3 := hid hf3'
        have HB3 := hid (show BufRep w3 wr.heap.size (fun _ => False) room [] by simpa using hb3)
        have hl3 := hf3'.size
        have hbl3 := hb3.lt
        have hBl3 : wC.heap.size < w3.heap.size := by omega
        clear hbuf hb3 hf3 hf3' c0
        go_wp2_with (first | still_step | (with_reducible first | refine wpStill_nil ?_ | refine Flow.Both.mk ?_ ?_ | exact True.intro) | (with_reducible refine Flow.same_mk rfl rfl rfl ?_; go_simp; done) | (with_reducible exact Flow.same_un rfl rfl rfl) | (with_reducible refine Flow.region_fork (id := 1) [0, 1, 3, 0, 0, 16, 56, 0, 255, 511, 1023] 844 51 (.look 0 (.look 1 (.look 4 (.look 5 (.look 7 (.act 2 [4, 5] (.act 3 [4, 5] (.act 6 [] (.act 8 [] (.act 9 [] (.look 10 .done) .stop) .stop) .stop) .stop) (.act 3 [0, 1, 4, 5] (.act 2 [4, 5] (.act 6 [] (.act 8 [] (.act 9 [] (.look 10 .done) .stop) .stop) .stop) (.act 6 [0, 1] (.act 2 [] (.act 8 [] (.act 9 [] (.look 10 .done) .stop) .stop) .stop) .stop)) .stop))))))) mixed ?hB ?_; (case hB => decide +kernel); simp only [Flow.q1, Flow.q2, Flow.q5, Flow.q6, Flow.q7, Flow.q8, Flow.q9, Flow.wpFT, Flow.Tr.map, Flow.SameAll]) | (with_reducible refine Flow.region_flow (id := 8) [0, 0, 2, 6, 14, 0, 32, 0, 224, 480, 992, 2016, 4094, 8191, 16383, 32767] 40768 24604 [(0, none), (1, none), (2, none), (3, none), (4, none), (5, none), (7, none), (6, some [2, 3, 4]), (8, some [2, 3, 4]), (9, some [2, 3, 4]), (10, some [2, 3, 4]), (11, some [2, 3, 4]), (12, some []), (13, none), (14, none), (15, some [])] mixed ?hB ?_; (case hB => decide +kernel); simp only [Flow.textOf, Flow.q1, Flow.q2, Flow.q3, Flow.q4, Flow.q5, Flow.q6, Flow.q7, Flow.q8, Flow.q9, Flow.wpFl, Flow.SameAll]) | (refine Flow.region_still mixed ?hB ?_; (case hB => decide +kernel)))
        go_at_call 54
        refine (clone_code Rc sp code.length sc (codeC code) _ (HIN.out.1.fr (S := fun _ => False) (by first | exact HF3.out | exact HF3.out.drew) (fun _ _ h => h)) HIN.out.2 (codeC_one code) (by omega)).mono ?_
        rintro e w4 ⟨ca, cc, rfl, ho4, hf4, _⟩
        have hf4' := (show Fr (fun _ => False) w3 _ by (with_reducible repeat' (first | exact Fr.refl _ _ | apply Fr.alloc | apply Fr.drew | apply Fr.drewN | refine Fr.setCell ?_ ?_ _))).trans hf4 (fun _ _ h => h)
        have b0_ := Fr.cell hf4' b0 (fun h => h)
        clear b0
        have b0 := b0_
        clear b0_
        have c04 := (hf4'.frozen (a := ⟨wC.heap.size, 0, none⟩) hBl3 (fun h => h)).trans c03
        have HF4 := hid (HF3.out.trans hf4' (fun _ _ h => h))
        have HB4 := hid (HB3.out.fr hf4' (fun h => h) (fun _ h => h.elim))
        have HO4 := hid (ho4.mono (R2 := fun z => w3.heap.size ≤ z) (fun z _ h => by (try simp at h); exact h))
        have hl4 := hf4'.size
        have hBl4 : wC.heap.size < w4.heap.size := by omega
        have hBn4 : wC.heap.size ≠ w4.heap.size := by omega
        have hBn5 : ¬ (wC.heap.size = w4.heap.size) := hBn4
        have hBn6 : ¬ (wC.heap.size = w4.heap.size + 1) := by omega
        clear ho4 hf4 hf4' HB3 HF3 c03
        obtain ⟨wz, hwz⟩ : ∃ wz, wz = (w4.alloc (.cells #[.pointer (some ⟨wr.heap.size, 0, none⟩), .slice ca code.length cc, .int .i64 0, .int .i64 0, .int .i64 0, .int .i64 0, .int .i64 0, .int .i64 0, .int .i64 0, .int .i64 0, .int .i64 0, .int .i64 0, .int .i64 0, .int .i64 0, .int .i64 0, .int .i64 0, .int .i64 0, .int .i64 0, .int .i64 0, .bool false] 116)).alloc (.cells #[.pointer (some ⟨w4.heap.size, 0, none⟩)] 113) := ⟨_, rfl⟩
        have HWZ := hid hwz
        clear hwz
        have HFZ := hid (show Fr (fun _ => False) w4 wz by rw [HWZ.out]; (with_reducible repeat' (first | exact Fr.refl _ _ | apply Fr.alloc | apply Fr.drew | apply Fr.drewN | refine Fr.setCell ?_ ?_ _)))
        go_wp2_with (first | (at_builtin; rw [← HWZ.out]; refine wpList_append_Own _ rfl (.tmp 40) (.tmp 47) 108 rfl 113 i0 (.pointer none) 1 8 Try.underlying108 hi0 hz0 hz1 hz2 rfl (by decide) S (fun z => z = w4.heap.size + 1) ta ids.length tc (ids.map fun p => Value.pointer (some ⟨p.1, 0, none⟩)) rfl (HOS.out.fr (HF4.out.trans HFZ.out (fun _ _ h => h)) (fun _ _ h => h)) (some ⟨w4.heap.size + 1, 0, none⟩) 1 1 [.pointer (some ⟨w4.heap.size, 0, none⟩)] rfl ?vw (by simp [Value.oneCell']) ?b1 ?b2 ?grow) | still_step | (with_reducible first | refine wpStill_nil ?_ | refine Flow.Both.mk ?_ ?_ | exact True.intro) | (with_reducible refine Flow.same_mk rfl rfl rfl ?_; go_simp; done) | (with_reducible exact Flow.same_un rfl rfl rfl) | (with_reducible refine Flow.region_fork (id := 1) [0, 1, 3, 0, 0, 16, 56, 0, 255, 511, 1023] 844 51 (.look 0 (.look 1 (.look 4 (.look 5 (.look 7 (.act 2 [4, 5] (.act 3 [4, 5] (.act 6 [] (.act 8 [] (.act 9 [] (.look 10 .done) .stop) .stop) .stop) .stop) (.act 3 [0, 1, 4, 5] (.act 2 [4, 5] (.act 6 [] (.act 8 [] (.act 9 [] (.look 10 .done) .stop) .stop) .stop) (.act 6 [0, 1] (.act 2 [] (.act 8 [] (.act 9 [] (.look 10 .done) .stop) .stop) .stop) .stop)) .stop))))))) mixed ?hB ?_; (case hB => decide +kernel); simp only [Flow.q1, Flow.q2, Flow.q5, Flow.q6, Flow.q7, Flow.q8, Flow.q9, Flow.wpFT, Flow.Tr.map, Flow.SameAll]) | (with_reducible refine Flow.region_flow (id := 8) [0, 0, 2, 6, 14, 0, 32, 0, 224, 480, 992, 2016, 4094, 8191, 16383, 32767] 40768 24604 [(0, none), (1, none), (2, none), (3, none), (4, none), (5, none), (7, none), (6, some [2, 3, 4]), (8, some [2, 3, 4]), (9, some [2, 3, 4]), (10, some [2, 3, 4]), (11, some [2, 3, 4]), (12, some []), (13, none), (14, none), (15, some [])] mixed ?hB ?_; (case hB => decide +kernel); simp only [Flow.textOf, Flow.q1, Flow.q2, Flow.q3, Flow.q4, Flow.q5, Flow.q6, Flow.q7, Flow.q8, Flow.q9, Flow.wpFl, Flow.SameAll]) | (refine Flow.region_still mixed ?hB ?_; (case hB => decide +kernel)))
        case vw => exact Vw.of_blk (C := #[.pointer (some ⟨w4.heap.size, 0, none⟩)]) (T := 113) (by rw [HWZ.out]; exact Blk.new' (by simp)) rfl rfl
        case b1 => have := HIL.out; unfold maxLen; omega
        case b2 => have := HIL.out; omega
        case grow =>
          intro ta' tc' w5 ho5 hf5
          have hbt : Blk wz w4.heap.size (thC wr.heap.size ca cc (newTh code)).toArray 116 := by rw [HWZ.out]; exact (Blk.new w4 _ _).alloc _
          have hz3 : wz.heap.size = w4.heap.size + 2 := by rw [HWZ.out]; simp
          have hth : ThRep wz (fun z => wr.heap.size ≤ z ∧ z < wz.heap.size) (fun _ => False) w4.heap.size wr.heap.size room (newTh code) :=
            ⟨by simp [newTh], ⟨ca, cc, hbt, (HO4.out.mono (R2 := fun z => wr.heap.size ≤ z ∧ z < wz.heap.size) (fun z hz h => ⟨by omega, by omega⟩)).fr HFZ.out (fun _ _ h => h)⟩, HB4.out.fr HFZ.out (fun h => h) (fun _ h => h.elim)⟩
          have hadd := addTh HR1.out (HF4.out.trans HFZ.out (fun _ _ h => h)) HB.out (fun z hz => ⟨(HS.out z hz).1, (HS.out z hz).2.1⟩) hf5 (t := newTh code) (by omega) (by omega) hth ho5
          have hsb : ∀ z, S z → w.heap.size ≤ z := fun z hz => (HS.out z hz).1.1
          have HADD := hid hadd
          have hSB : ¬ S wC.heap.size := fun hk => by have := (ty_blk HB.out).symm.trans (HS.out _ hk).2.1; exact absurd (Option.some.inj this) (by decide)
          have hFz5 := (HF4.out.trans HFZ.out (fun _ _ h => h)).mono (S2 := S) (fun _ _ h => h.elim) |>.trans hf5 (fun _ _ h => h)
          have b05 := hFz5.cell ((HB.out.cell 0).trans rfl) hSB
          have c05 := (hFz5.frozen (a := ⟨wC.heap.size, 0, none⟩) hBl hSB).trans (HB.out.free 0)
          have hl5 := hf5.size
          have HFZ5 := hid ((HF1.out.trans HF4.out (fun _ _ h => h)).trans HFZ.out (fun _ _ h => h))
          clear hadd hth hbt hf5 ho5 hFz5 b0 c04
          go_wp2_with (first | still_step | (with_reducible first | refine wpStill_nil ?_ | refine Flow.Both.mk ?_ ?_ | exact True.intro) | (with_reducible refine Flow.same_mk rfl rfl rfl ?_; go_simp; done) | (with_reducible exact Flow.same_un rfl rfl rfl) | (with_reducible refine Flow.region_fork (id := 1) [0, 1, 3, 0, 0, 16, 56, 0, 255, 511, 1023] 844 51 (.look 0 (.look 1 (.look 4 (.look 5 (.look 7 (.act 2 [4, 5] (.act 3 [4, 5] (.act 6 [] (.act 8 [] (.act 9 [] (.look 10 .done) .stop) .stop) .stop) .stop) (.act 3 [0, 1, 4, 5] (.act 2 [4, 5] (.act 6 [] (.act 8 [] (.act 9 [] (.look 10 .done) .stop) .stop) .stop) (.act 6 [0, 1] (.act 2 [] (.act 8 [] (.act 9 [] (.look 10 .done) .stop) .stop) .stop) .stop)) .stop))))))) mixed ?hB ?_; (case hB => decide +kernel); simp only [Flow.q1, Flow.q2, Flow.q5, Flow.q6, Flow.q7, Flow.q8, Flow.q9, Flow.wpFT, Flow.Tr.map, Flow.SameAll]) | (with_reducible refine Flow.region_flow (id := 8) [0, 0, 2, 6, 14, 0, 32, 0, 224, 480, 992, 2016, 4094, 8191, 16383, 32767] 40768 24604 [(0, none), (1, none), (2, none), (3, none), (4, none), (5, none), (7, none), (6, some [2, 3, 4]), (8, some [2, 3, 4]), (9, some [2, 3, 4]), (10, some [2, 3, 4]), (11, some [2, 3, 4]), (12, some []), (13, none), (14, none), (15, some [])] mixed ?hB ?_; (case hB => decide +kernel); simp only [Flow.textOf, Flow.q1, Flow.q2, Flow.q3, Flow.q4, Flow.q5, Flow.q6, Flow.q7, Flow.q8, Flow.q9, Flow.wpFl, Flow.SameAll]) | (refine Flow.region_still mixed ?hB ?_; (case hB => decide +kernel)))
          go_roundw
          case rel =>
            refine ⟨k + 1, ids ++ [(w4.heap.size, wr.heap.size)], by omega, by go_num, ?_, HFZ5.out.trans (S := fun _ => False) HADD.out.2 (fun z hz h => ?_)⟩
            · rw [HTK.out]
              obtain ⟨Q', hq'⟩ := HADD.out.1
              refine ⟨Q', MRep.mono (R := fun z => (w.heap.size ≤ z ∧ z < wr.heap.size) ∨ (wr.heap.size ≤ z ∧ z < w5.heap.size)) ?_ (fun z h => by have := HF1.out.size; simp; omega) (fun z h => h.2)⟩
              simpa [start] using hq'
            · rcases h with h | h
              · exact absurd (hsb z h) (by omega)
              · exact absurd h (by omega)
          case measure => simp [intOf]; omega
      · obtain rfl : k = L2 := by omega
        have hr := HR1.out
        rw [List.take_of_length_le (by have := HL2.out; omega)] at hr
        have HR2 := hid hr
        clear hr
        go_wp2_with (first | still_step | (with_reducible first | refine wpStill_nil ?_ | refine Flow.Both.mk ?_ ?_ | exact True.intro) | (with_reducible refine Flow.same_mk rfl rfl rfl ?_; go_simp; done) | (with_reducible exact Flow.same_un rfl rfl rfl) | (with_reducible refine Flow.region_fork (id := 1) [0, 1, 3, 0, 0, 16, 56, 0, 255, 511, 1023] 844 51 (.look 0 (.look 1 (.look 4 (.look 5 (.look 7 (.act 2 [4, 5] (.act 3 [4, 5] (.act 6 [] (.act 8 [] (.act 9 [] (.look 10 .done) .stop) .stop) .stop) .stop) (.act 3 [0, 1, 4, 5] (.act 2 [4, 5] (.act 6 [] (.act 8 [] (.act 9 [] (.look 10 .done) .stop) .stop) .stop) (.act 6 [0, 1] (.act 2 [] (.act 8 [] (.act 9 [] (.look 10 .done) .stop) .stop) .stop) .stop)) .stop))))))) mixed ?hB ?_; (case hB => decide +kernel); simp only [Flow.q1, Flow.q2, Flow.q5, Flow.q6, Flow.q7, Flow.q8, Flow.q9, Flow.wpFT, Flow.Tr.map, Flow.SameAll]) | (with_reducible refine Flow.region_flow (id := 8) [0, 0, 2, 6, 14, 0, 32, 0, 224, 480, 992, 2016, 4094, 8191, 16383, 32767] 40768 24604 [(0, none), (1, none), (2, none), (3, none), (4, none), (5, none), (7, none), (6, some [2, 3, 4]), (8, some [2, 3, 4]), (9, some [2, 3, 4]), (10, some [2, 3, 4]), (11, some [2, 3, 4]), (12, some []), (13, none), (14, none), (15, some [])] mixed ?hB ?_; (case hB => decide +kernel); simp only [Flow.textOf, Flow.q1, Flow.q2, Flow.q3, Flow.q4, Flow.q5, Flow.q6, Flow.q7, Flow.q8, Flow.q9, Flow.wpFl, Flow.SameAll]) | (refine Flow.region_still mixed ?hB ?_; (case hB => decide +kernel)))
        go_ret
        exact ⟨_, _, rfl, ⟨_, HR2.out⟩, HF1.out⟩
  · refine (rep_is locks hlk (w.heap.size + 1) 0 1 (-1) _ (by go_simp)).mono ?_
    rintro e wC ⟨oa, oc, rfl, hoC, hfC⟩
    have hfwC := (show Fr (fun _ => False) w _ by (with_reducible repeat' (first | exact Fr.refl _ _ | apply Fr.alloc | apply Fr.drew | apply Fr.drewN | refine Fr.setCell ?_ ?_ _))).trans hfC (fun _ _ h => h)
    have hx := Blk.fr (S := fun _ => False) (show Blk _ w.heap.size #[.slice ao L2 co, .slice aa an ac, .int .i64 (words : Int), .int .i64 (locks : Int)] 25 from by ((repeat' (first | with_reducible exact HX.out | with_reducible apply Blk.drew | with_reducible apply Blk.alloc)))) hfC (fun h => h)
    have HFWC := hid hfwC
    clear HX
    have HX := hid hx
    have c2_i := hx.cell 2
    have c3_i := hx.cell 3
    have l_i := hx.lt
    have HOC := hid (hoC.mono (R2 := fun z => w.heap.size ≤ z) (fun z _ h => by (try simp at h); omega))
    have hsC := hfwC.size
    clear hx hfC hoC hfwC
    go_wp2_with (first | ((refine wpList_makeF _ rfl (.tmp 11) (.tmp 11) 26 rfl 2 (.int .i64 0) 8 Try.underlying26 infoTI rfl words rfl rfl (by omega) (by omega) ?_); intro wA hbA hfA hsA; have hx := Blk.fr (S := fun _ => False) (show Blk _ w.heap.size #[.slice ao L2 co, .slice aa an ac, .int .i64 (words : Int), .int .i64 (locks : Int)] 25 from by ((repeat' (first | with_reducible exact HX.out | with_reducible apply Blk.drew | with_reducible apply Blk.alloc)))) hfA (fun h => h); have HMB := hid hbA; have HFA := hid hfA; have HSA := hid hsA; clear HX hbA hfA hsA; have HX := hid hx; have c2_i := hx.cell 2; have c3_i := hx.cell 3; have l_i := hx.lt; clear hx) | still_step | (with_reducible first | refine wpStill_nil ?_ | refine Flow.Both.mk ?_ ?_ | exact True.intro) | (with_reducible refine Flow.same_mk rfl rfl rfl ?_; go_simp; done) | (with_reducible exact Flow.same_un rfl rfl rfl) | (with_reducible refine Flow.region_fork (id := 1) [0, 1, 3, 0, 0, 16, 56, 0, 255, 511, 1023] 844 51 (.look 0 (.look 1 (.look 4 (.look 5 (.look 7 (.act 2 [4, 5] (.act 3 [4, 5] (.act 6 [] (.act 8 [] (.act 9 [] (.look 10 .done) .stop) .stop) .stop) .stop) (.act 3 [0, 1, 4, 5] (.act 2 [4, 5] (.act 6 [] (.act 8 [] (.act 9 [] (.look 10 .done) .stop) .stop) .stop) (.act 6 [0, 1] (.act 2 [] (.act 8 [] (.act 9 [] (.look 10 .done) .stop) .stop) .stop) .stop)) .stop))))))) mixed ?hB ?_; (case hB => decide +kernel); simp only [Flow.q1, Flow.q2, Flow.q5, Flow.q6, Flow.q7, Flow.q8, Flow.q9, Flow.wpFT, Flow.Tr.map, Flow.SameAll]) | (with_reducible refine Flow.region_flow (id := 8) [0, 0, 2, 6, 14, 0, 32, 0, 224, 480, 992, 2016, 4094, 8191, 16383, 32767] 40768 24604 [(0, none), (1, none), (2, none), (3, none), (4, none), (5, none), (7, none), (6, some [2, 3, 4]), (8, some [2, 3, 4]), (9, some [2, 3, 4]), (10, some [2, 3, 4]), (11, some [2, 3, 4]), (12, some []), (13, none), (14, none), (15, some [])] mixed ?hB ?_; (case hB => decide +kernel); simp only [Flow.textOf, Flow.q1, Flow.q2, Flow.q3, Flow.q4, Flow.q5, Flow.q6, Flow.q7, Flow.q8, Flow.q9, Flow.wpFl, Flow.SameAll]) | (refine Flow.region_still mixed ?hB ?_; (case hB => decide +kernel)))
    have hfAC := Fr.refl (fun _ => False) wA
    have hfCA : Fr (fun _ => False) wC wA := by first | exact HFA.out | exact (Fr.refl _ _).drew.trans HFA.out (fun _ _ h => h)
    have hfwA := HFWC.out.trans hfCA (fun _ _ h => h)
    have hoC := HOC.out.fr hfCA (fun _ _ h => h)
    have hx := HX.out
    have hs0 := hfCA.size
    have hs1 := hfwA.size
    have hs2 := HX.out.lt
    have hmb : Blk wA wC.heap.size (List.replicate words (.int .i64 0)).toArray 2 := HMB.out
    have HX2 := hid hx
    have HMB2 := hid hmb
    have HO2 := hid (hoC.mono (R2 := fun k => w.heap.size ≤ k) (fun k _ h => by (try simp at h); omega))
    have HF2 := hid (hfwA.trans hfAC (fun _ _ h => h))
    clear hx hmb hoC hfAC hfwA HX HMB
    (try clear hfC)
    (try clear HFA)
    (try clear HSA)
    (try go_wp2_with (first | still_step | (with_reducible first | refine wpStill_nil ?_ | refine Flow.Both.mk ?_ ?_ | exact True.intro) | (with_reducible refine Flow.same_mk rfl rfl rfl ?_; go_simp; done) | (with_reducible exact Flow.same_un rfl rfl rfl) | (with_reducible refine Flow.region_fork (id := 1) [0, 1, 3, 0, 0, 16, 56, 0, 255, 511, 1023] 844 51 (.look 0 (.look 1 (.look 4 (.look 5 (.look 7 (.act 2 [4, 5] (.act 3 [4, 5] (.act 6 [] (.act 8 [] (.act 9 [] (.look 10 .done) .stop) .stop) .stop) .stop) (.act 3 [0, 1, 4, 5] (.act 2 [4, 5] (.act 6 [] (.act 8 [] (.act 9 [] (.look 10 .done) .stop) .stop) .stop) (.act 6 [0, 1] (.act 2 [] (.act 8 [] (.act 9 [] (.look 10 .done) .stop) .stop) .stop) .stop)) .stop))))))) mixed ?hB ?_; (case hB => decide +kernel); simp only [Flow.q1, Flow.q2, Flow.q5, Flow.q6, Flow.q7, Flow.q8, Flow.q9, Flow.wpFT, Flow.Tr.map, Flow.SameAll]) | (with_reducible refine Flow.region_flow (id := 8) [0, 0, 2, 6, 14, 0, 32, 0, 224, 480, 992, 2016, 4094, 8191, 16383, 32767] 40768 24604 [(0, none), (1, none), (2, none), (3, none), (4, none), (5, none), (7, none), (6, some [2, 3, 4]), (8, some [2, 3, 4]), (9, some [2, 3, 4]), (10, some [2, 3, 4]), (11, some [2, 3, 4]), (12, some []), (13, none), (14, none), (15, some [])] mixed ?hB ?_; (case hB => decide +kernel); simp only [Flow.textOf, Flow.q1, Flow.q2, Flow.q3, Flow.q4, Flow.q5, Flow.q6, Flow.q7, Flow.q8, Flow.q9, Flow.wpFl, Flow.SameAll]) | (refine Flow.region_still mixed ?hB ?_; (case hB => decide +kernel))))
    obtain ⟨wD, hwD, hfD⟩ : ∃ wD, wD = wA.alloc (.cells #[.slice none 0 0, .slice (some ⟨wC.heap.size, 0, none⟩) words words, .slice oa locks oc, .slice none 0 0, .int .i64 (room : Int)] 110) ∧ Fr (fun _ => False) wA wD := ⟨_, rfl, by (with_reducible repeat' (first | exact Fr.refl _ _ | apply Fr.alloc | apply Fr.drew | apply Fr.drewN | refine Fr.setCell ?_ ?_ _))⟩
    have hbD : Blk wD wA.heap.size #[.slice none 0 0, .slice (some ⟨wC.heap.size, 0, none⟩) words words, .slice oa locks oc, .slice none 0 0, .int .i64 (room : Int)] 110 := by rw [hwD]; exact Blk.new wA _ _
    obtain ⟨kc, wE, hcp, hmE, hfE, hsE⟩ := copy_mem (cm := cm) (HMB2.out.fr hfD (fun h => h)) (HM.out.fr (HF2.out.trans hfD (fun _ _ h => h)) (fun _ _ h => h)) hmn HL.out
    rw [← hwD, hcp]
    simp only [Result.andThen, Oper.upon]
    have hmblt := HMB2.out.lt
    have hneB : wA.heap.size ≠ wC.heap.size := by omega
    have hbE := hbD.fr hfE hneB
    have htyM : tyAt wD (wC.heap.size) = some 2 := ty_blk (HMB2.out.fr hfD (fun h => h))
    have hoE := own_frN (HO2.out.fr hfD (fun _ _ h => h)) hfE (fun k hk e => by rw [hk, htyM] at e; exact absurd (Option.some.inj e) (by decide))
    have hsD : wD.heap.size = wA.heap.size + 1 := by rw [hwD]; simp
    have hrun : MRep wE wA.heap.size (fun z => w.heap.size ≤ z ∧ z < wE.heap.size) [] (fun _ _ => False) (start [] words mem locks room) :=
      noTh_rep hbE ⟨Nat.le_refl _, by unfold maxLen; omega, by rw [ints_length, memInit_length]; omega, .inr ⟨wC.heap.size, 0, _, rfl, ⟨by omega, by rw [hsE, hsD]; omega⟩, hmE, by simp [ints_length, memInit_length], by simp only [List.drop_zero, Nat.mul_one]; exact List.take_of_length_le (by rw [ints_length, memInit_length]; exact Nat.le_refl _)⟩⟩ (memInit_length _ _) (by simpa [ints] using hoE.mono (fun k hk h => ⟨h, hk⟩)) ⟨by omega, by rw [hsE, hsD]; omega⟩ (fun k hk => hk.2)
    have HRUN := hid hrun
    have HFE := hid ((HF2.out.trans hfD (fun _ _ h => h)).trans hfE (fun k hk e => by omega))
    have hxE := (HX2.out.fr hfD (fun h => h)).fr hfE (by omega)
    have HXE := hid hxE
    have hgtB : w.heap.size < wA.heap.size := by have := HX2.out.lt; omega
    clear hxE hrun hoE htyM hbE hmE hfE hbD hfD hwD hcp HX2 HMB2 HO2 HF2 hneB hmblt
    go_wp2_with (first | still_step | (with_reducible first | refine wpStill_nil ?_ | refine Flow.Both.mk ?_ ?_ | exact True.intro) | (with_reducible refine Flow.same_mk rfl rfl rfl ?_; go_simp; done) | (with_reducible exact Flow.same_un rfl rfl rfl) | (with_reducible refine Flow.region_fork (id := 1) [0, 1, 3, 0, 0, 16, 56, 0, 255, 511, 1023] 844 51 (.look 0 (.look 1 (.look 4 (.look 5 (.look 7 (.act 2 [4, 5] (.act 3 [4, 5] (.act 6 [] (.act 8 [] (.act 9 [] (.look 10 .done) .stop) .stop) .stop) .stop) (.act 3 [0, 1, 4, 5] (.act 2 [4, 5] (.act 6 [] (.act 8 [] (.act 9 [] (.look 10 .done) .stop) .stop) .stop) (.act 6 [0, 1] (.act 2 [] (.act 8 [] (.act 9 [] (.look 10 .done) .stop) .stop) .stop) .stop)) .stop))))))) mixed ?hB ?_; (case hB => decide +kernel); simp only [Flow.q1, Flow.q2, Flow.q5, Flow.q6, Flow.q7, Flow.q8, Flow.q9, Flow.wpFT, Flow.Tr.map, Flow.SameAll]) | (with_reducible refine Flow.region_flow (id := 8) [0, 0, 2, 6, 14, 0, 32, 0, 224, 480, 992, 2016, 4094, 8191, 16383, 32767] 40768 24604 [(0, none), (1, none), (2, none), (3, none), (4, none), (5, none), (7, none), (6, some [2, 3, 4]), (8, some [2, 3, 4]), (9, some [2, 3, 4]), (10, some [2, 3, 4]), (11, some [2, 3, 4]), (12, some []), (13, none), (14, none), (15, some [])] mixed ?hB ?_; (case hB => decide +kernel); simp only [Flow.textOf, Flow.q1, Flow.q2, Flow.q3, Flow.q4, Flow.q5, Flow.q6, Flow.q7, Flow.q8, Flow.q9, Flow.wpFl, Flow.SameAll]) | (refine Flow.region_still mixed ?hB ?_; (case hB => decide +kernel)))
    go_at_call 53
    refine (new_all (room : Int) _).mono ?_
    rintro e wF ⟨rfl, hfF, _⟩
    rw [if_pos (by omega)]
    have hfF' := (show Fr (fun _ => False) wE _ by (with_reducible repeat' (first | exact Fr.refl _ _ | apply Fr.alloc | apply Fr.drew | apply Fr.drewN | refine Fr.setCell ?_ ?_ _))).trans hfF (fun _ _ h => h)
    have HRUN2 := hid ((HRUN.out.fr hfF' (fun _ _ h => h)).mono (R2 := fun z => w.heap.size ≤ z ∧ z < wF.heap.size) (fun k h => ⟨h.1, Nat.lt_of_lt_of_le h.2 hfF'.size⟩) (fun k h => h.2))
    have HF5 := hid (HFE.out.trans hfF' (fun _ _ h => h))
    have hx5 := HXE.out.fr hfF' (fun h => h)
    have c0_i := hx5.cell 0
    have l_i := hx5.lt
    clear hx5 HXE HRUN HFE hfF hfF'
    go_wp2_with (first | still_step | (with_reducible first | refine wpStill_nil ?_ | refine Flow.Both.mk ?_ ?_ | exact True.intro) | (with_reducible refine Flow.same_mk rfl rfl rfl ?_; go_simp; done) | (with_reducible exact Flow.same_un rfl rfl rfl) | (with_reducible refine Flow.region_fork (id := 1) [0, 1, 3, 0, 0, 16, 56, 0, 255, 511, 1023] 844 51 (.look 0 (.look 1 (.look 4 (.look 5 (.look 7 (.act 2 [4, 5] (.act 3 [4, 5] (.act 6 [] (.act 8 [] (.act 9 [] (.look 10 .done) .stop) .stop) .stop) .stop) (.act 3 [0, 1, 4, 5] (.act 2 [4, 5] (.act 6 [] (.act 8 [] (.act 9 [] (.look 10 .done) .stop) .stop) .stop) (.act 6 [0, 1] (.act 2 [] (.act 8 [] (.act 9 [] (.look 10 .done) .stop) .stop) .stop) .stop)) .stop))))))) mixed ?hB ?_; (case hB => decide +kernel); simp only [Flow.q1, Flow.q2, Flow.q5, Flow.q6, Flow.q7, Flow.q8, Flow.q9, Flow.wpFT, Flow.Tr.map, Flow.SameAll]) | (with_reducible refine Flow.region_flow (id := 8) [0, 0, 2, 6, 14, 0, 32, 0, 224, 480, 992, 2016, 4094, 8191, 16383, 32767] 40768 24604 [(0, none), (1, none), (2, none), (3, none), (4, none), (5, none), (7, none), (6, some [2, 3, 4]), (8, some [2, 3, 4]), (9, some [2, 3, 4]), (10, some [2, 3, 4]), (11, some [2, 3, 4]), (12, some []), (13, none), (14, none), (15, some [])] mixed ?hB ?_; (case hB => decide +kernel); simp only [Flow.textOf, Flow.q1, Flow.q2, Flow.q3, Flow.q4, Flow.q5, Flow.q6, Flow.q7, Flow.q8, Flow.q9, Flow.wpFl, Flow.SameAll]) | (refine Flow.region_still mixed ?hB ?_; (case hB => decide +kernel)))
    have hBl0 : wA.heap.size < wF.heap.size := by have := HRUN2.out.lt _ HRUN2.out.inB; omega
    go_loopw [32] (fun i wr => ∃ (k : Nat) (ids : List (Nat × Nat)), k ≤ L2 ∧ i = .int .i64 k ∧ MR wr (fun z => w.heap.size ≤ z ∧ z < wr.heap.size) wA.heap.size ids (start ((qs.take k).map (·.2)) words mem locks room) ∧ Fr (fun _ => False) w wr) (fun i _ => L2 - (intOf i).toNat)
    case atStart => exact ⟨0, [], Nat.zero_le _, rfl, ⟨_, by simpa using HRUN2.out⟩, HF5.out⟩
    case round =>
      obtain ⟨k, ids, hk, rfl, ⟨Q, hr1⟩, hf⟩ := hrel
      have HR1 := hid hr1
      have HF1 := hid hf
      clear hr1 hf HRUN2 HF5 c0_i l_i
      by_cases hlt : k < L2
      · have hkl : k < qs.length := by have := HL2.out; omega
        obtain ⟨r, off, rfl, hcell⟩ := (HC.out.fr HF1.out (fun _ _ h => h)).cell hkl
        have hin := (HC.out.fr HF1.out (fun _ _ h => h)).inn qs[k] (List.getElem_mem hkl)
        have hi2 := HI.out qs[k] (List.getElem_mem hkl)
        have htk : (qs.take (k + 1)).map (·.2) = (qs.take k).map (·.2) ++ [qs[k].2] := by rw [List.take_succ_eq_append_getElem hkl, List.map_append]; rfl
        obtain ⟨⟨⟨sp, sc⟩, code⟩, hq2⟩ : ∃ q, q = qs[k] := ⟨_, rfl⟩
        rw [← hq2] at hcell hin hi2 htk
        dsimp only at hcell hin hi2 htk
        obtain ⟨ta, tc, ma2, mc2, oa2, oc2, ea2, ec2, hB, hO, _⟩ := HR1.out.head
        have b0 : wr.cell? ⟨wA.heap.size, 0, none⟩ = some (.slice ta ids.length tc) := (hB.cell 0).trans rfl
        have c0 := hB.free 0
        have HB := hid hB
        have HIN := hid hin
        have HTK := hid htk
        have hBl := hB.lt
        have hlen := HR1.out.len
        have hil : ids.length = k := by rw [hlen]; unfold start; simp; omega
        obtain ⟨S, hOS, hS⟩ := OwnAt.tight hO
        have HOS := hid hOS
        have HS := hid hS
        have HIL := hid hil
        obtain ⟨i0, hi0, hz0, hz1, hz2⟩ := info_parts infoPTH
        clear hB hin htk hq2 hlen hOS hS hil hO
        go_wp2_with (first | still_step | (with_reducible first | refine wpStill_nil ?_ | refine Flow.Both.mk ?_ ?_ | exact True.intro) | (with_reducible refine Flow.same_mk rfl rfl rfl ?_; go_simp; done) | (with_reducible exact Flow.same_un rfl rfl rfl) | (with_reducible refine Flow.region_fork (id := 1) [0, 1, 3, 0, 0, 16, 56, 0, 255, 511, 1023] 844 51 (.look 0 (.look 1 (.look 4 (.look 5 (.look 7 (.act 2 [4, 5] (.act 3 [4, 5] (.act 6 [] (.act 8 [] (.act 9 [] (.look 10 .done) .stop) .stop) .stop) .stop) (.act 3 [0, 1, 4, 5] (.act 2 [4, 5] (.act 6 [] (.act 8 [] (.act 9 [] (.look 10 .done) .stop) .stop) .stop) (.act 6 [0, 1] (.act 2 [] (.act 8 [] (.act 9 [] (.look 10 .done) .stop) .stop) .stop) .stop)) .stop))))))) mixed ?hB ?_; (case hB => decide +kernel); simp only [Flow.q1, Flow.q2, Flow.q5, Flow.q6, Flow.q7, Flow.q8, Flow.q9, Flow.wpFT, Flow.Tr.map, Flow.SameAll]) | (with_reducible refine Flow.region_flow (id := 8) [0, 0, 2, 6, 14, 0, 32, 0, 224, 480, 992, 2016, 4094, 8191, 16383, 32767] 40768 24604 [(0, none), (1, none), (2, none), (3, none), (4, none), (5, none), (7, none), (6, some [2, 3, 4]), (8, some [2, 3, 4]), (9, some [2, 3, 4]), (10, some [2, 3, 4]), (11, some [2, 3, 4]), (12, some []), (13, none), (14, none), (15, some [])] mixed ?hB ?_; (case hB => decide +kernel); simp only [Flow.textOf, Flow.q1, Flow.q2, Flow.q3, Flow.q4, Flow.q5, Flow.q6, Flow.q7, Flow.q8, Flow.q9, Flow.wpFl, Flow.SameAll]) | (refine Flow.region_still mixed ?hB ?_; (case hB => decide +kernel)))
        go_at_call 53
        refine (new_all (room : Int) _).mono ?_
        rintro e w3 ⟨rfl, hf3, hbuf⟩
        rw [if_pos (by omega)]
        have hb3 := hbuf (by omega)
        have hf3' := (show Fr (fun _ => False) wr _ by (with_reducible repeat' (first | exact Fr.refl _ _ | apply Fr.alloc | apply Fr.drew | apply Fr.drewN | refine Fr.setCell ?_ ?_ _))).trans hf3 (fun _ _ h => h)
        have b0_ := Fr.cell hf3' b0 (fun h => h)
        clear b0
        have b0 := b0_
        clear b0_
        have c03 := (hf3'.frozen (a := ⟨wA.heap.size, 0, none⟩) hBl (fun h => h)).trans c0
        have HF3 := hid hf3'
        have HB3 := hid (show BufRep w3 wr.heap.size (fun _ => False) room [] by simpa using hb3)
        have hl3 := hf3'.size
        have hbl3 := hb3.lt
        have hBl3 : wA.heap.size < w3.heap.size := by omega
        clear hbuf hb3 hf3 hf3' c0
        go_wp2_with (first | still_step | (with_reducible first | refine wpStill_nil ?_ | refine Flow.Both.mk ?_ ?_ | exact True.intro) | (with_reducible refine Flow.same_mk rfl rfl rfl ?_; go_simp; done) | (with_reducible exact Flow.same_un rfl rfl rfl) | (with_reducible refine Flow.region_fork (id := 1) [0, 1, 3, 0, 0, 16, 56, 0, 255, 511, 1023] 844 51 (.look 0 (.look 1 (.look 4 (.look 5 (.look 7 (.act 2 [4, 5] (.act 3 [4, 5] (.act 6 [] (.act 8 [] (.act 9 [] (.look 10 .done) .stop) .stop) .stop) .stop) (.act 3 [0, 1, 4, 5] (.act 2 [4, 5] (.act 6 [] (.act 8 [] (.act 9 [] (.look 10 .done) .stop) .stop) .stop) (.act 6 [0, 1] (.act 2 [] (.act 8 [] (.act 9 [] (.look 10 .done) .stop) .stop) .stop) .stop)) .stop))))))) mixed ?hB ?_; (case hB => decide +kernel); simp only [Flow.q1, Flow.q2, Flow.q5, Flow.q6, Flow.q7, Flow.q8, Flow.q9, Flow.wpFT, Flow.Tr.map, Flow.SameAll]) | (with_reducible refine Flow.region_flow (id := 8) [0, 0, 2, 6, 14, 0, 32, 0, 224, 480, 992, 2016, 4094, 8191, 16383, 32767] 40768 24604 [(0, none), (1, none), (2, none), (3, none), (4, none), (5, none), (7, none), (6, some [2, 3, 4]), (8, some [2, 3, 4]), (9, some [2, 3, 4]), (10, some [2, 3, 4]), (11, some [2, 3, 4]), (12, some []), (13, none), (14, none), (15, some [])] mixed ?hB ?_; (case hB => decide +kernel); simp only [Flow.textOf, Flow.q1, Flow.q2, Flow.q3, Flow.q4, Flow.q5, Flow.q6, Flow.q7, Flow.q8, Flow.q9, Flow.wpFl, Flow.SameAll]) | (refine Flow.region_still mixed ?hB ?_; (case hB => decide +kernel)))
        go_at_call 54
        refine (clone_code Rc sp code.length sc (codeC code) _ (HIN.out.1.fr (S := fun _ => False) (by first | exact HF3.out | exact HF3.out.drew) (fun _ _ h => h)) HIN.out.2 (codeC_one code) (by omega)).mono ?_
        rintro e w4 ⟨ca, cc, rfl, ho4, hf4, _⟩
        have hf4' := (show Fr (fun _ => False) w3 _ by (with_reducible repeat' (first | exact Fr.refl _ _ | apply Fr.alloc | apply Fr.drew | apply Fr.drewN | refine Fr.setCell ?_ ?_ _))).trans hf4 (fun _ _ h => h)
        have b0_ := Fr.cell hf4' b0 (fun h => h)
        clear b0
        have b0 := b0_
        clear b0_
        have c04 := (hf4'.frozen (a := ⟨wA.heap.size, 0, none⟩) hBl3 (fun h => h)).trans c03
        have HF4 := hid (HF3.out.trans hf4' (fun _ _ h => h))
        have HB4 := hid (HB3.out.fr hf4' (fun h => h) (fun _ h => h.elim))
        have HO4 := hid (ho4.mono (R2 := fun z => w3.heap.size ≤ z) (fun z _ h => by (try simp at h); exact h))
        have hl4 := hf4'.size
        have hBl4 : wA.heap.size < w4.heap.size := by omega
        have hBn4 : wA.heap.size ≠ w4.heap.size := by omega
        have hBn5 : ¬ (wA.heap.size = w4.heap.size) := hBn4
        have hBn6 : ¬ (wA.heap.size = w4.heap.size + 1) := by omega
        clear ho4 hf4 hf4' HB3 HF3 c03
        obtain ⟨wz, hwz⟩ : ∃ wz, wz = (w4.alloc (.cells #[.pointer (some ⟨wr.heap.size, 0, none⟩), .slice ca code.length cc, .int .i64 0, .int .i64 0, .int .i64 0, .int .i64 0, .int .i64 0, .int .i64 0, .int .i64 0, .int .i64 0, .int .i64 0, .int .i64 0, .int .i64 0, .int .i64 0, .int .i64 0, .int .i64 0, .int .i64 0, .int .i64 0, .int .i64 0, .bool false] 116)).alloc (.cells #[.pointer (some ⟨w4.heap.size, 0, none⟩)] 113) := ⟨_, rfl⟩
        have HWZ := hid hwz
        clear hwz
        have HFZ := hid (show Fr (fun _ => False) w4 wz by rw [HWZ.out]; (with_reducible repeat' (first | exact Fr.refl _ _ | apply Fr.alloc | apply Fr.drew | apply Fr.drewN | refine Fr.setCell ?_ ?_ _)))
        go_wp2_with (first | (at_builtin; rw [← HWZ.out]; refine wpList_append_Own _ rfl (.tmp 40) (.tmp 47) 108 rfl 113 i0 (.pointer none) 1 8 Try.underlying108 hi0 hz0 hz1 hz2 rfl (by decide) S (fun z => z = w4.heap.size + 1) ta ids.length tc (ids.map fun p => Value.pointer (some ⟨p.1, 0, none⟩)) rfl (HOS.out.fr (HF4.out.trans HFZ.out (fun _ _ h => h)) (fun _ _ h => h)) (some ⟨w4.heap.size + 1, 0, none⟩) 1 1 [.pointer (some ⟨w4.heap.size, 0, none⟩)] rfl ?vw (by simp [Value.oneCell']) ?b1 ?b2 ?grow) | still_step | (with_reducible first | refine wpStill_nil ?_ | refine Flow.Both.mk ?_ ?_ | exact True.intro) | (with_reducible refine Flow.same_mk rfl rfl rfl ?_; go_simp; done) | (with_reducible exact Flow.same_un rfl rfl rfl) | (with_reducible refine Flow.region_fork (id := 1) [0, 1, 3, 0, 0, 16, 56, 0, 255, 511, 1023] 844 51 (.look 0 (.look 1 (.look 4 (.look 5 (.look 7 (.act 2 [4, 5] (.act 3 [4, 5] (.act 6 [] (.act 8 [] (.act 9 [] (.look 10 .done) .stop) .stop) .stop) .stop) (.act 3 [0, 1, 4, 5] (.act 2 [4, 5] (.act 6 [] (.act 8 [] (.act 9 [] (.look 10 .done) .stop) .stop) .stop) (.act 6 [0, 1] (.act 2 [] (.act 8 [] (.act 9 [] (.look 10 .done) .stop) .stop) .stop) .stop)) .stop))))))) mixed ?hB ?_; (case hB => decide +kernel); simp only [Flow.q1, Flow.q2, Flow.q5, Flow.q6, Flow.q7, Flow.q8, Flow.q9, Flow.wpFT, Flow.Tr.map, Flow.SameAll]) | (with_reducible refine Flow.region_flow (id := 8) [0, 0, 2, 6, 14, 0, 32, 0, 224, 480, 992, 2016, 4094, 8191, 16383, 32767] 40768 24604 [(0, none), (1, none), (2, none), (3, none), (4, none), (5, none), (7, none), (6, some [2, 3, 4]), (8, some [2, 3, 4]), (9, some [2, 3, 4]), (10, some [2, 3, 4]), (11, some [2, 3, 4]), (12, some []), (13, none), (14, none), (15, some [])] mixed ?hB ?_; (case hB => decide +kernel); simp only [Flow.textOf, Flow.q1, Flow.q2, Flow.q3, Flow.q4, Flow.q5, Flow.q6, Flow.q7, Flow.q8, Flow.q9, Flow.wpFl, Flow.SameAll]) | (refine Flow.region_still mixed ?hB ?_; (case hB => decide +kernel)))
        case vw => exact Vw.of_blk (C := #[.pointer (some ⟨w4.heap.size, 0, none⟩)]) (T := 113) (by rw [HWZ.out]; exact Blk.new' (by simp)) rfl rfl
        case b1 => have := HIL.out; unfold maxLen; omega
        case b2 => have := HIL.out; omega
        case grow =>
          intro ta' tc' w5 ho5 hf5
          have hbt : Blk wz w4.heap.size (thC wr.heap.size ca cc (newTh code)).toArray 116 := by rw [HWZ.out]; exact (Blk.new w4 _ _).alloc _
          have hz3 : wz.heap.size = w4.heap.size + 2 := by rw [HWZ.out]; simp
          have hth : ThRep wz (fun z => wr.heap.size ≤ z ∧ z < wz.heap.size) (fun _ => False) w4.heap.size wr.heap.size room (newTh code) :=
            ⟨by simp [newTh], ⟨ca, cc, hbt, (HO4.out.mono (R2 := fun z => wr.heap.size ≤ z ∧ z < wz.heap.size) (fun z hz h => ⟨by omega, by omega⟩)).fr HFZ.out (fun _ _ h => h)⟩, HB4.out.fr HFZ.out (fun h => h) (fun _ h => h.elim)⟩
          have hadd := addTh HR1.out (HF4.out.trans HFZ.out (fun _ _ h => h)) HB.out (fun z hz => ⟨(HS.out z hz).1, (HS.out z hz).2.1⟩) hf5 (t := newTh code) (by omega) (by omega) hth ho5
          have hsb : ∀ z, S z → w.heap.size ≤ z := fun z hz => (HS.out z hz).1.1
          have HADD := hid hadd
          have hSB : ¬ S wA.heap.size := fun hk => by have := (ty_blk HB.out).symm.trans (HS.out _ hk).2.1; exact absurd (Option.some.inj this) (by decide)
          have hFz5 := (HF4.out.trans HFZ.out (fun _ _ h => h)).mono (S2 := S) (fun _ _ h => h.elim) |>.trans hf5 (fun _ _ h => h)
          have b05 := hFz5.cell ((HB.out.cell 0).trans rfl) hSB
          have c05 := (hFz5.frozen (a := ⟨wA.heap.size, 0, none⟩) hBl hSB).trans (HB.out.free 0)
          have hl5 := hf5.size
          have HFZ5 := hid ((HF1.out.trans HF4.out (fun _ _ h => h)).trans HFZ.out (fun _ _ h => h))
          clear hadd hth hbt hf5 ho5 hFz5 b0 c04
          go_wp2_with (first | still_step | (with_reducible first | refine wpStill_nil ?_ | refine Flow.Both.mk ?_ ?_ | exact True.intro) | (with_reducible refine Flow.same_mk rfl rfl rfl ?_; go_simp; done) | (with_reducible exact Flow.same_un rfl rfl rfl) | (with_reducible refine Flow.region_fork (id := 1) [0, 1, 3, 0, 0, 16, 56, 0, 255, 511, 1023] 844 51 (.look 0 (.look 1 (.look 4 (.look 5 (.look 7 (.act 2 [4, 5] (.act 3 [4, 5] (.act 6 [] (.act 8 [] (.act 9 [] (.look 10 .done) .stop) .stop) .stop) .stop) (.act 3 [0, 1, 4, 5] (.act 2 [4, 5] (.act 6 [] (.act 8 [] (.act 9 [] (.look 10 .done) .stop) .stop) .stop) (.act 6 [0, 1] (.act 2 [] (.act 8 [] (.act 9 [] (.look 10 .done) .stop) .stop) .stop) .stop)) .stop))))))) mixed ?hB ?_; (case hB => decide +kernel); simp only [Flow.q1, Flow.q2, Flow.q5, Flow.q6, Flow.q7, Flow.q8, Flow.q9, Flow.wpFT, Flow.Tr.map, Flow.SameAll]) | (with_reducible refine Flow.region_flow (id := 8) [0, 0, 2, 6, 14, 0, 32, 0, 224, 480, 992, 2016, 4094, 8191, 16383, 32767] 40768 24604 [(0, none), (1, none), (2, none), (3, none), (4, none), (5, none), (7, none), (6, some [2, 3, 4]), (8, some [2, 3, 4]), (9, some [2, 3, 4]), (10, some [2, 3, 4]), (11, some [2, 3, 4]), (12, some []), (13, none), (14, none), (15, some [])] mixed ?hB ?_; (case hB => decide +kernel); simp only [Flow.textOf, Flow.q1, Flow.q2, Flow.q3, Flow.q4, Flow.q5, Flow.q6, Flow.q7, Flow.q8, Flow.q9, Flow.wpFl, Flow.SameAll]) | (refine Flow.region_still mixed ?hB ?_; (case hB => decide +kernel)))
          go_roundw
          case rel =>
            refine ⟨k + 1, ids ++ [(w4.heap.size, wr.heap.size)], by omega, by go_num, ?_, HFZ5.out.trans (S := fun _ => False) HADD.out.2 (fun z hz h => ?_)⟩
            · rw [HTK.out]
              obtain ⟨Q', hq'⟩ := HADD.out.1
              refine ⟨Q', MRep.mono (R := fun z => (w.heap.size ≤ z ∧ z < wr.heap.size) ∨ (wr.heap.size ≤ z ∧ z < w5.heap.size)) ?_ (fun z h => by have := HF1.out.size; simp; omega) (fun z h => h.2)⟩
              simpa [start] using hq'
            · rcases h with h | h
              · exact absurd (hsb z h) (by omega)
              · exact absurd h (by omega)
          case measure => simp [intOf]; omega
      · obtain rfl : k = L2 := by omega
        have hr := HR1.out
        rw [List.take_of_length_le (by have := HL2.out; omega)] at hr
        have HR2 := hid hr
        clear hr
        go_wp2_with (first | still_step | (with_reducible first | refine wpStill_nil ?_ | refine Flow.Both.mk ?_ ?_ | exact True.intro) | (with_reducible refine Flow.same_mk rfl rfl rfl ?_; go_simp; done) | (with_reducible exact Flow.same_un rfl rfl rfl) | (with_reducible refine Flow.region_fork (id := 1) [0, 1, 3, 0, 0, 16, 56, 0, 255, 511, 1023] 844 51 (.look 0 (.look 1 (.look 4 (.look 5 (.look 7 (.act 2 [4, 5] (.act 3 [4, 5] (.act 6 [] (.act 8 [] (.act 9 [] (.look 10 .done) .stop) .stop) .stop) .stop) (.act 3 [0, 1, 4, 5] (.act 2 [4, 5] (.act 6 [] (.act 8 [] (.act 9 [] (.look 10 .done) .stop) .stop) .stop) (.act 6 [0, 1] (.act 2 [] (.act 8 [] (.act 9 [] (.look 10 .done) .stop) .stop) .stop) .stop)) .stop))))))) mixed ?hB ?_; (case hB => decide +kernel); simp only [Flow.q1, Flow.q2, Flow.q5, Flow.q6, Flow.q7, Flow.q8, Flow.q9, Flow.wpFT, Flow.Tr.map, Flow.SameAll]) | (with_reducible refine Flow.region_flow (id := 8) [0, 0, 2, 6, 14, 0, 32, 0, 224, 480, 992, 2016, 4094, 8191, 16383, 32767] 40768 24604 [(0, none), (1, none), (2, none), (3, none), (4, none), (5, none), (7, none), (6, some [2, 3, 4]), (8, some [2, 3, 4]), (9, some [2, 3, 4]), (10, some [2, 3, 4]), (11, some [2, 3, 4]), (12, some []), (13, none), (14, none), (15, some [])] mixed ?hB ?_; (case hB => decide +kernel); simp only [Flow.textOf, Flow.q1, Flow.q2, Flow.q3, Flow.q4, Flow.q5, Flow.q6, Flow.q7, Flow.q8, Flow.q9, Flow.wpFl, Flow.SameAll]) | (refine Flow.region_still mixed ?hB ?_; (case hB => decide +kernel)))
        go_ret
        exact ⟨_, _, rfl, ⟨_, HR2.out⟩, HF1.out⟩
end Go.Proofs.Ytbfeopakmjcapaa.Tso
