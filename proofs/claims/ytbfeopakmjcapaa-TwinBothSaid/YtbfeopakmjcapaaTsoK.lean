/-
  What can be asked of a machine: Thread, Memory, Events, Owner.
-/
import Derived.Test.YtbfeopakmjcapaaTsoZ
set_option linter.unusedVariables false
set_option linter.unusedSimpArgs false
set_option maxHeartbeats 4000000
set_option maxRecDepth 8000
namespace Go.Proofs.Ytbfeopakmjcapaa.Tso
open Go.RowKit Go.Proofs.Ytbfeopakmjcapaa.Seq
attribute [local irreducible] wpStill wpList Calls CallsIn

theorem infoEV2 : (Try.prog.info? 53).map (fun i => (i.zero, i.size, i.bytes)) = some (some (.agg #[.int .i64 0, .int .i64 0, .int .i64 0]), 3, 24) := by kernel_rfl
set_option maxHeartbeats 400000 in
/-- slices.Clone: a row of its own; nil of nil. -/
theorem clone_ev (R : Nat → Prop) (ao : Option Addr) (n cap : Nat) (cs : List Value) (w : World) (hv : Vw w 3 R ao n cs) (hnil : ao = none → n = 0) (h1 : ∀ u ∈ cs, u.oneCell' = true) (hb : n * 24 ≤ 140737488355328) :
    Calls Try.prog 64 #[.slice ao n cap] w fun e w' => ∃ ao' cap', e = .returned (.slice ao' n cap') ∧ OwnAt w' 53 3 (fun k => w.heap.size ≤ k) ao' n cap' cs ∧ Fr (fun _ => False) w w' ∧ (ao = none → ao' = none) := by
  obtain ⟨i0, hi, hz0, hz1, hz2⟩ := info_parts infoEV2
  have hen := fun (w : World) (a : Option Addr) (n c n' c' : Nat) => Lib.run_eql_slice_nil (P := Try.prog) w 47 53 a n c n' c' Try.underlying47
  cases ao with
  | none =>
    have hn := hnil rfl
    subst hn
    obtain rfl : cs = [] := List.eq_nil_of_length_eq_zero (by simpa using hv.1)
    go_enter Try.func64, Try.ntmps64
    go_wp2
    go_ret
    exact ⟨none, 0, rfl, OwnAt.nil _ _ _ _ _, Fr.refl _ _, by simp⟩
  | some ad =>
    have HV := hid hv
    have H1 := hid h1
    have HB := hid hb
    clear hv h1 hb hnil
    go_enter Try.func64, Try.ntmps64
    go_wp2_with (at_builtin; refine wpList_append_Own _ rfl (.tmp 5) (.tmp 6) 47 rfl 53 i0 (.agg #[.int .i64 0, .int .i64 0, .int .i64 0]) 3 24 Try.underlying47 hi hz0 hz1 hz2 rfl (by decide) (fun k => w.heap.size ≤ k) R (some ⟨w.heap.size, 0, none⟩) 0 0 [] rfl (OwnAt.nil _ _ _ _ _) (some ad) n cap cs rfl (HV.out.fr (S := fun _ => False) (by (with_reducible repeat' (first | exact Fr.refl _ _ | apply Fr.alloc | apply Fr.drew | apply Fr.drewN | refine Fr.setCell ?_ ?_ _))) (fun _ _ h => h)) H1.out ?b1 ?b2 ?grow)
    case b1 => unfold maxLen; have := HB.out; omega
    case b2 => have := HB.out; omega
    case grow =>
      intro ao' cap' w1 ho1 hf1
      have HO1 := hid ho1
      have HF1 := hid hf1
      clear ho1 hf1
      go_wp2
      go_ret
      refine ⟨ao', cap', rfl, HO1.out.mono (fun k _ h => ?_), ?_, by simp⟩
      · first | omega | (simp at h; omega)
      · have h0 : Fr (fun _ => False) w (w.alloc (.cells #[] 53)) := by (with_reducible repeat' (first | exact Fr.refl _ _ | apply Fr.alloc | apply Fr.drew | apply Fr.drewN | refine Fr.setCell ?_ ?_ _))
        exact h0.trans HF1.out (fun k hk h => by omega)


theorem ownPtr {w : World} {E : TypeId} {sz n cap : Nat} {R : Nat → Prop} {ao : Option Addr} {cs : List Value} (h : OwnAt w E sz R ao n cap cs) : n = 0 ∨ ∃ r off, ao = some ⟨r, off, none⟩ := by
  rcases h.2.2.2 with h1 | ⟨r, off, C, e, _⟩
  · left; have := h.1; omega
  · exact .inr ⟨r, off, e⟩

theorem memory_is (B : Nat) (R : Nat → Prop) (ids : List (Nat × Nat)) (m : M) (w : World) (h : MR w R B ids m) (hn : m.mem.length ≤ 100000) :
    Calls Try.prog 42 #[.pointer (some ⟨B, 0, none⟩)] w fun e w' => ∃ a c, e = .returned (.slice a m.mem.length c) ∧ OwnAt w' 2 1 (fun k => w.heap.size ≤ k) a m.mem.length c (ints m.mem) ∧ Fr (fun _ => False) w w' := by
  obtain ⟨Q, h⟩ := h
  obtain ⟨ta, tc, ma, mc, oa, oc, ea, ec, hb, _, hm, _, _⟩ := h.head
  have b1 : w.cell? ⟨B, 1, none⟩ = some (.slice ma m.mem.length mc) := (hb.cell 1).trans rfl
  have hlt := hb.lt
  have hp := ownPtr hm
  have HM := hid hm.vw
  clear hb hm h
  generalize m.mem.length = L at *
  go_enter Try.func42, Try.ntmps42
  go_wp2_with (first | still_step | (with_reducible first | refine wpStill_nil ?_ | refine Flow.Both.mk ?_ ?_ | exact True.intro) | (with_reducible refine Flow.same_mk rfl rfl rfl ?_; go_simp; done) | (with_reducible exact Flow.same_un rfl rfl rfl) | (refine Flow.region_still mixed ?hB ?_; (case hB => decide +kernel)))
  go_at_call 65
  refine (clone_int R ma L mc (ints m.mem) _ HM.out (fun e => by rcases hp with hp | ⟨r, off, hp⟩; exact hp; rw [e] at hp; cases hp) (ints_one _) (by omega)).mono ?_
  rintro e w1 ⟨a, c, rfl, ho, hf, _⟩
  have HO := hid ho
  have HF := hid hf
  clear ho hf
  go_wp2_with (first | still_step | (with_reducible first | refine wpStill_nil ?_ | refine Flow.Both.mk ?_ ?_ | exact True.intro) | (with_reducible refine Flow.same_mk rfl rfl rfl ?_; go_simp; done) | (with_reducible exact Flow.same_un rfl rfl rfl) | (refine Flow.region_still mixed ?hB ?_; (case hB => decide +kernel)))
  go_ret
  exact ⟨a, c, rfl, HO.out, HF.out⟩

theorem events_is (B : Nat) (R : Nat → Prop) (ids : List (Nat × Nat)) (m : M) (w : World) (h : MR w R B ids m) (hn : evRoom m) :
    Calls Try.prog 41 #[.pointer (some ⟨B, 0, none⟩)] w fun e w' => ∃ a c, e = .returned (.slice a m.events.length c) ∧ OwnAt w' 53 3 (fun k => w.heap.size ≤ k) a m.events.length c (evC m.events) ∧ Fr (fun _ => False) w w' := by
  obtain ⟨Q, h⟩ := h
  obtain ⟨ta, tc, ma, mc, oa, oc, ea, ec, hb, _, _, _, hm⟩ := h.head
  have b1 : w.cell? ⟨B, 3, none⟩ = some (.slice ea m.events.length ec) := (hb.cell 3).trans rfl
  have hlt := hb.lt
  have hp := ownPtr hm
  have HM := hid hm.vw
  unfold evRoom at hn
  clear hb hm h
  generalize m.events.length = L at *
  go_enter Try.func41, Try.ntmps41
  go_wp2_with (first | still_step | (with_reducible first | refine wpStill_nil ?_ | refine Flow.Both.mk ?_ ?_ | exact True.intro) | (with_reducible refine Flow.same_mk rfl rfl rfl ?_; go_simp; done) | (with_reducible exact Flow.same_un rfl rfl rfl) | (refine Flow.region_still mixed ?hB ?_; (case hB => decide +kernel)))
  go_at_call 64
  refine (clone_ev R ea L ec (evC m.events) _ HM.out (fun e => by rcases hp with hp | ⟨r, off, hp⟩; exact hp; rw [e] at hp; cases hp) (evC_one _) (by omega)).mono ?_
  rintro e w1 ⟨a, c, rfl, ho, hf, _⟩
  have HO := hid ho
  have HF := hid hf
  clear ho hf
  go_wp2_with (first | still_step | (with_reducible first | refine wpStill_nil ?_ | refine Flow.Both.mk ?_ ?_ | exact True.intro) | (with_reducible refine Flow.same_mk rfl rfl rfl ?_; go_simp; done) | (with_reducible exact Flow.same_un rfl rfl rfl) | (refine Flow.region_still mixed ?hB ?_; (case hB => decide +kernel)))
  go_ret
  exact ⟨a, c, rfl, HO.out, HF.out⟩

def M.ownerOf (m : M) (n : Int) : Int := if 0 ≤ n ∧ n < m.own.length then m.own.getD n.toNat (-1) else -1

theorem owner_is (B : Nat) (R : Nat → Prop) (ids : List (Nat × Nat)) (m : M) (n : Int) (w : World) (h : MR w R B ids m) :
    Calls Try.prog 49 #[.pointer (some ⟨B, 0, none⟩), .int .i64 n] w fun e w' => e = .returned (.int .i64 (m.ownerOf n)) ∧ Fr (fun _ => False) w w' := by
  obtain ⟨Q, h⟩ := h
  obtain ⟨oa, oc, c2, hoa, hown⟩ := ownRow h
  have hlt := h.lt B h.inB
  unfold M.ownerOf
  by_cases h0 : 0 ≤ n
  · by_cases h1 : n < m.own.length
    · rw [if_pos ⟨h0, h1⟩]
      obtain ⟨k, rfl⟩ : ∃ k : Nat, n = k := ⟨n.toNat, by omega⟩
      obtain ⟨r, off, rfl, q0, _, _, _, _⟩ := hown k (by omega)
      have hrl := World.block_lt_of_cell? _ _ q0
      dsimp only at hrl
      rw [show ((k : Nat) : Int).toNat = k by simp]
      generalize m.own.getD k (-1) = v at *
      clear hown hoa h
      generalize m.own.length = L at *
      go_enter Try.func49, Try.ntmps49
      go_wp2_with (first | still_step | (with_reducible first | refine wpStill_nil ?_ | refine Flow.Both.mk ?_ ?_ | exact True.intro) | (with_reducible refine Flow.same_mk rfl rfl rfl ?_; go_simp; done) | (with_reducible exact Flow.same_un rfl rfl rfl) | (refine Flow.region_still mixed ?hB ?_; (case hB => decide +kernel)))
      go_ret
      exact ⟨rfl, by (with_reducible repeat' (first | exact Fr.refl _ _ | apply Fr.alloc | apply Fr.drew | apply Fr.drewN | refine Fr.setCell ?_ ?_ _))⟩
    · rw [if_neg (fun h => h1 h.2)]
      clear hown hoa h
      generalize m.own.length = L at *
      go_enter Try.func49, Try.ntmps49
      go_wp2_with (first | still_step | (with_reducible first | refine wpStill_nil ?_ | refine Flow.Both.mk ?_ ?_ | exact True.intro) | (with_reducible refine Flow.same_mk rfl rfl rfl ?_; go_simp; done) | (with_reducible exact Flow.same_un rfl rfl rfl) | (refine Flow.region_still mixed ?hB ?_; (case hB => decide +kernel)))
      go_ret
      exact ⟨rfl, by (with_reducible repeat' (first | exact Fr.refl _ _ | apply Fr.alloc | apply Fr.drew | apply Fr.drewN | refine Fr.setCell ?_ ?_ _))⟩
  · rw [if_neg (fun h => h0 h.1)]
    clear hown hoa h
    generalize m.own.length = L at *
    go_enter Try.func49, Try.ntmps49
    go_wp2_with (first | still_step | (with_reducible first | refine wpStill_nil ?_ | refine Flow.Both.mk ?_ ?_ | exact True.intro) | (with_reducible refine Flow.same_mk rfl rfl rfl ?_; go_simp; done) | (with_reducible exact Flow.same_un rfl rfl rfl) | (refine Flow.region_still mixed ?hB ?_; (case hB => decide +kernel)))
    go_ret
    exact ⟨rfl, by (with_reducible repeat' (first | exact Fr.refl _ _ | apply Fr.alloc | apply Fr.drew | apply Fr.drewN | refine Fr.setCell ?_ ?_ _))⟩

/-- How a thread stands, as a value; a, c: where its waiting stores lie. -/
def standV (t : Th) (a : Option Addr) (c : Nat) : List Value := .int .i64 t.place :: (ints t.regs ++ [.slice a t.wait.length c, .bool t.over])
def noTh : Th := ⟨[], 0, List.replicate 16 0, [], false⟩

theorem szTHR : (Try.prog.info? 45).map (·.size) = some 19 := by kernel_rfl
theorem unTHR : ∃ d, Try.prog.underlying 45 = some d ∧ d.isRow = true := ⟨_, Try.underlying45, rfl⟩

theorem list16 {α : Type} (l : List α) (h : l.length = 16) : ∃ a b c d e f g i j k m n o p q r, l = [a, b, c, d, e, f, g, i, j, k, m, n, o, p, q, r] := by
  match l, h with
  | [a, b, c, d, e, f, g, i, j, k, m, n, o, p, q, r], _ => exact ⟨a, b, c, d, e, f, g, i, j, k, m, n, o, p, q, r, rfl⟩

theorem thread_is (B : Nat) (R : Nat → Prop) (ids : List (Nat × Nat)) (m : M) (who : Int) (w : World) (h : MR w R B ids m) :
    Calls Try.prog 40 #[.pointer (some ⟨B, 0, none⟩), .int .i64 who] w fun e w' => ∃ a c, e = .returned (.agg (standV ((m.th who).getD noTh) a c).toArray) ∧
      OwnAt w' 124 2 (fun k => w.heap.size ≤ k) a ((m.th who).getD noTh).wait.length c (ent ((m.th who).getD noTh).wait) ∧ Fr (fun _ => False) w w' := by
  have HR := hid h
  obtain ⟨d4, hd4, hd5⟩ := unTHR
  have HL := hid (Blk.new w (standV noTh none 0).toArray 45)
  have hres := fun (C : Array Value) (hC : C.size = 19) (tmps : Array Value) (w : World) (b : Nat) (ha : tmps.getD 4 undef = .pointer (some ⟨b, 0, none⟩)) (hb : Blk w b C 45) => results_c1 (P := Try.prog) Try.results40 ha hb hd4 hd5 (by rw [hC]; exact szTHR)
  have HRES := hid hres
  clear hres
  obtain ⟨Q, hQ⟩ := h
  rcases th_cases hQ who with ⟨h1, h2⟩ | ⟨k, p, t, rfl, hp, ht, h1, h2, hrep⟩
  · rw [h2]
    clear hQ h2
    go_enter Try.func40, Try.ntmps40
    go_wp2_with (first | still_step | (with_reducible first | refine wpStill_nil ?_ | refine Flow.Both.mk ?_ ?_ | exact True.intro) | (with_reducible refine Flow.same_mk rfl rfl rfl ?_; go_simp; done) | (with_reducible exact Flow.same_un rfl rfl rfl) | (with_reducible refine Flow.region_flow (id := 4) [0, 1, 3, 7, 0, 16, 48, 112, 0, 256, 768, 1792, 3840, 0, 8192, 24576, 57344, 131071, 262143] 397312 118510 [(0, none), (1, none), (2, none), (3, none), (4, none), (5, none), (6, none), (7, none), (8, none), (9, none), (10, none), (11, none), (13, none), (14, none), (15, none), (16, none), (12, some [1, 2, 3, 5, 6, 7, 14, 15, 16]), (17, some []), (18, some [])] mixed ?hB ?_; (case hB => decide +kernel); simp only [Flow.textOf, Flow.q1, Flow.q2, Flow.q3, Flow.q4, Flow.q5, Flow.q6, Flow.q7, Flow.q8, Flow.q9, Flow.wpFl, Flow.SameAll]) | (refine Flow.region_still mixed ?hB ?_; (case hB => decide +kernel)))
    go_at_call 62
    refine (get_is B R ids m _ _ (HR.out.fr (S := fun _ => False) (by (with_reducible repeat' (first | exact Fr.refl _ _ | apply Fr.alloc | apply Fr.drew | apply Fr.drewN | refine Fr.setCell ?_ ?_ _))) (fun _ _ h => h))).mono ?_
    rintro e w1 ⟨rfl, hf⟩
    rw [h1]
    have HF1 := hid (show Fr (fun _ => False) w w1 from (show Fr (fun _ => False) w _ by (with_reducible repeat' (first | exact Fr.refl _ _ | apply Fr.alloc | apply Fr.drew | apply Fr.drewN | refine Fr.setCell ?_ ?_ _))).trans hf (fun _ _ h => h))
    have HL1 := hid (HL.out.fr hf (fun h => h))
    clear hf HL
    go_wp2_with (first | ((with_reducible apply wpList_storeA (b := w.heap.size) (C := (standV noTh none 0).toArray) (T := 45)); (case zsx => rfl); (case zsy => rfl); (case zsn => rfl); (case zsi => exact szTHR); (case zs1 => rfl); (case zsb => ((repeat' (first | with_reducible exact HL1.out | with_reducible exact HL2.out | with_reducible exact HL3.out | with_reducible exact HL4.out | with_reducible apply Blk.drew | with_reducible apply Blk.alloc | (with_reducible refine Blk.set_ne ?_ ?_ _))); all_goals (first | omega | (simp; omega) | (simp; done)))); intro w9 hb9 hf9 hs9; have HB9 := hid hb9; have HF9 := hid hf9; have HSZ9 := hid hs9; clear hb9 hf9 hs9) | still_step | (with_reducible first | refine wpStill_nil ?_ | refine Flow.Both.mk ?_ ?_ | exact True.intro) | (with_reducible refine Flow.same_mk rfl rfl rfl ?_; go_simp; done) | (with_reducible exact Flow.same_un rfl rfl rfl) | (with_reducible refine Flow.region_flow (id := 4) [0, 1, 3, 7, 0, 16, 48, 112, 0, 256, 768, 1792, 3840, 0, 8192, 24576, 57344, 131071, 262143] 397312 118510 [(0, none), (1, none), (2, none), (3, none), (4, none), (5, none), (6, none), (7, none), (8, none), (9, none), (10, none), (11, none), (13, none), (14, none), (15, none), (16, none), (12, some [1, 2, 3, 5, 6, 7, 14, 15, 16]), (17, some []), (18, some [])] mixed ?hB ?_; (case hB => decide +kernel); simp only [Flow.textOf, Flow.q1, Flow.q2, Flow.q3, Flow.q4, Flow.q5, Flow.q6, Flow.q7, Flow.q8, Flow.q9, Flow.wpFl, Flow.SameAll]) | (refine Flow.region_still mixed ?hB ?_; (case hB => decide +kernel)))
    refine bodyPost_ret (HRES.out _ rfl _ _ _ rfl HB9.out) rfl ?_
    have hF9 : Fr (fun _ => False) w w9 := fr_weaken (by (repeat' (first | with_reducible exact HF1.out | with_reducible apply Fr.alloc | with_reducible apply Fr.drew | (with_reducible refine Fr.setCell ?_ ?_ _)))) HF9.out (Nat.le_refl _)
    exact ⟨none, 0, rfl, OwnAt.nil _ _ _ _ _, hF9⟩
  · obtain ⟨g0, ⟨ca, cc, hb, _⟩, hbuf⟩ := hrep
    rw [h2]
    obtain ⟨code, place, regs, wait, over⟩ := t
    obtain ⟨r0, r1, r2, r3, r4, r5, r6, r7, r8, r9, r10, r11, r12, r13, r14, r15, rfl⟩ := list16 regs g0
    have hb' : Blk w p.1 #[.pointer (some ⟨p.2, 0, none⟩), .slice ca code.length cc, .int .i64 place, .int .i64 r0, .int .i64 r1, .int .i64 r2, .int .i64 r3, .int .i64 r4, .int .i64 r5, .int .i64 r6, .int .i64 r7, .int .i64 r8, .int .i64 r9, .int .i64 r10, .int .i64 r11, .int .i64 r12, .int .i64 r13, .int .i64 r14, .int .i64 r15, .bool over] 116 := hb
    have HB := hid hb'
    have HBF := hid hbuf
    clear hQ h2 hb hb' hbuf g0
    dsimp only [Option.getD_some]
    go_enter Try.func40, Try.ntmps40
    go_wp2_with (first | still_step | (with_reducible first | refine wpStill_nil ?_ | refine Flow.Both.mk ?_ ?_ | exact True.intro) | (with_reducible refine Flow.same_mk rfl rfl rfl ?_; go_simp; done) | (with_reducible exact Flow.same_un rfl rfl rfl) | (with_reducible refine Flow.region_flow (id := 4) [0, 1, 3, 7, 0, 16, 48, 112, 0, 256, 768, 1792, 3840, 0, 8192, 24576, 57344, 131071, 262143] 397312 118510 [(0, none), (1, none), (2, none), (3, none), (4, none), (5, none), (6, none), (7, none), (8, none), (9, none), (10, none), (11, none), (13, none), (14, none), (15, none), (16, none), (12, some [1, 2, 3, 5, 6, 7, 14, 15, 16]), (17, some []), (18, some [])] mixed ?hB ?_; (case hB => decide +kernel); simp only [Flow.textOf, Flow.q1, Flow.q2, Flow.q3, Flow.q4, Flow.q5, Flow.q6, Flow.q7, Flow.q8, Flow.q9, Flow.wpFl, Flow.SameAll]) | (refine Flow.region_still mixed ?hB ?_; (case hB => decide +kernel)))
    go_at_call 62
    refine (get_is B R ids m _ _ (HR.out.fr (S := fun _ => False) (by (with_reducible repeat' (first | exact Fr.refl _ _ | apply Fr.alloc | apply Fr.drew | apply Fr.drewN | refine Fr.setCell ?_ ?_ _))) (fun _ _ h => h))).mono ?_
    rintro e w1 ⟨rfl, hf⟩
    rw [h1]
    have HF1 := hid (show Fr (fun _ => False) w w1 from (show Fr (fun _ => False) w _ by (with_reducible repeat' (first | exact Fr.refl _ _ | apply Fr.alloc | apply Fr.drew | apply Fr.drewN | refine Fr.setCell ?_ ?_ _))).trans hf (fun _ _ h => h))
    have HL1 := hid (HL.out.fr hf (fun h => h))
    have hb1 := HB.out.fr HF1.out (fun h => h)
    have c0_a := Blk.cell hb1 0
    have c1_a := Blk.cell hb1 1
    have c2_a := Blk.cell hb1 2
    have c3_a := Blk.cell hb1 3
    have c4_a := Blk.cell hb1 4
    have c5_a := Blk.cell hb1 5
    have c6_a := Blk.cell hb1 6
    have c7_a := Blk.cell hb1 7
    have c8_a := Blk.cell hb1 8
    have c9_a := Blk.cell hb1 9
    have c10_a := Blk.cell hb1 10
    have c11_a := Blk.cell hb1 11
    have c12_a := Blk.cell hb1 12
    have c13_a := Blk.cell hb1 13
    have c14_a := Blk.cell hb1 14
    have c15_a := Blk.cell hb1 15
    have c16_a := Blk.cell hb1 16
    have c17_a := Blk.cell hb1 17
    have c18_a := Blk.cell hb1 18
    have c19_a := Blk.cell hb1 19
    have l_a := Blk.lt hb1
    clear hf HL hb1
    go_wp2_with (first | still_step | (with_reducible first | refine wpStill_nil ?_ | refine Flow.Both.mk ?_ ?_ | exact True.intro) | (with_reducible refine Flow.same_mk rfl rfl rfl ?_; go_simp; done) | (with_reducible exact Flow.same_un rfl rfl rfl) | (with_reducible refine Flow.region_flow (id := 4) [0, 1, 3, 7, 0, 16, 48, 112, 0, 256, 768, 1792, 3840, 0, 8192, 24576, 57344, 131071, 262143] 397312 118510 [(0, none), (1, none), (2, none), (3, none), (4, none), (5, none), (6, none), (7, none), (8, none), (9, none), (10, none), (11, none), (13, none), (14, none), (15, none), (16, none), (12, some [1, 2, 3, 5, 6, 7, 14, 15, 16]), (17, some []), (18, some [])] mixed ?hB ?_; (case hB => decide +kernel); simp only [Flow.textOf, Flow.q1, Flow.q2, Flow.q3, Flow.q4, Flow.q5, Flow.q6, Flow.q7, Flow.q8, Flow.q9, Flow.wpFl, Flow.SameAll]) | (refine Flow.region_still mixed ?hB ?_; (case hB => decide +kernel)))
    go_at_call 63
    refine (all_yes p.2 (Q k) m.room wait _ (HBF.out.fr (S := fun _ => False) (by first | exact HF1.out | exact HF1.out.drew) (fun h => h) (fun _ _ h => h))).mono ?_
    rintro e w2 ⟨a, c, rfl, ho, hf2⟩
    have hf2' := (show Fr (fun _ => False) w1 _ by (with_reducible repeat' (first | exact Fr.refl _ _ | apply Fr.alloc | apply Fr.drew | apply Fr.drewN | refine Fr.setCell ?_ ?_ _))).trans hf2 (fun _ _ h => h)
    have HF2 := hid (HF1.out.trans hf2' (fun _ _ h => h))
    have HL2 := hid (HL1.out.fr hf2' (fun h => h))
    have hb2 := HB.out.fr HF2.out (fun h => h)
    have HO := hid (ho.mono (R2 := fun z => w1.heap.size ≤ z) (fun z _ h => by (try simp at h); exact h))
    have hlw := HL1.out.lt
    have hsz := HF1.out.size
    clear c0_a c1_a c2_a c3_a c4_a c5_a c6_a c7_a c8_a c9_a c10_a c11_a c12_a c13_a c14_a c15_a c16_a c17_a c18_a c19_a hf2 hf2' ho HL1 HF1
    have c0_b := Blk.cell hb2 0
    have c1_b := Blk.cell hb2 1
    have c2_b := Blk.cell hb2 2
    have c3_b := Blk.cell hb2 3
    have c4_b := Blk.cell hb2 4
    have c5_b := Blk.cell hb2 5
    have c6_b := Blk.cell hb2 6
    have c7_b := Blk.cell hb2 7
    have c8_b := Blk.cell hb2 8
    have c9_b := Blk.cell hb2 9
    have c10_b := Blk.cell hb2 10
    have c11_b := Blk.cell hb2 11
    have c12_b := Blk.cell hb2 12
    have c13_b := Blk.cell hb2 13
    have c14_b := Blk.cell hb2 14
    have c15_b := Blk.cell hb2 15
    have c16_b := Blk.cell hb2 16
    have c17_b := Blk.cell hb2 17
    have c18_b := Blk.cell hb2 18
    have c19_b := Blk.cell hb2 19
    have l_b := Blk.lt hb2
    clear hb2
    go_wp2_with (first | ((with_reducible apply wpList_storeA (b := w.heap.size) (C := (standV noTh none 0).toArray) (T := 45)); (case zsx => rfl); (case zsy => rfl); (case zsn => rfl); (case zsi => exact szTHR); (case zs1 => rfl); (case zsb => ((repeat' (first | with_reducible exact HL1.out | with_reducible exact HL2.out | with_reducible exact HL3.out | with_reducible exact HL4.out | with_reducible apply Blk.drew | with_reducible apply Blk.alloc | (with_reducible refine Blk.set_ne ?_ ?_ _))); all_goals (first | omega | (simp; omega) | (simp; done)))); intro w9 hb9 hf9 hs9; have HB9 := hid hb9; have HF9 := hid hf9; have HSZ9 := hid hs9; clear hb9 hf9 hs9) | still_step | (with_reducible first | refine wpStill_nil ?_ | refine Flow.Both.mk ?_ ?_ | exact True.intro) | (with_reducible refine Flow.same_mk rfl rfl rfl ?_; go_simp; done) | (with_reducible exact Flow.same_un rfl rfl rfl) | (with_reducible refine Flow.region_flow (id := 4) [0, 1, 3, 7, 0, 16, 48, 112, 0, 256, 768, 1792, 3840, 0, 8192, 24576, 57344, 131071, 262143] 397312 118510 [(0, none), (1, none), (2, none), (3, none), (4, none), (5, none), (6, none), (7, none), (8, none), (9, none), (10, none), (11, none), (13, none), (14, none), (15, none), (16, none), (12, some [1, 2, 3, 5, 6, 7, 14, 15, 16]), (17, some []), (18, some [])] mixed ?hB ?_; (case hB => decide +kernel); simp only [Flow.textOf, Flow.q1, Flow.q2, Flow.q3, Flow.q4, Flow.q5, Flow.q6, Flow.q7, Flow.q8, Flow.q9, Flow.wpFl, Flow.SameAll]) | (refine Flow.region_still mixed ?hB ?_; (case hB => decide +kernel)))
    refine bodyPost_ret (HRES.out _ rfl _ _ _ rfl HB9.out) rfl ?_
    have hF29 : Fr (fun z => z = w.heap.size) w2 w9 := (show Fr (fun z => z = w.heap.size) w2 _ by (with_reducible repeat' (first | exact Fr.refl _ _ | apply Fr.alloc | apply Fr.drew | apply Fr.drewN | refine Fr.setCell ?_ ?_ _))).trans HF9.out (fun _ _ h => h)
    exact ⟨a, c, rfl, (HO.out.fr hF29 (fun z hz e => by omega)).mono (fun z _ h => by omega), fr_weaken HF2.out hF29 (Nat.le_refl _)⟩
end Go.Proofs.Ytbfeopakmjcapaa.Tso
