/-
  Put: a thread is let stand otherwise.
-/
import Derived.Test.YtbfeopakmjcapaaTsoK
import Derived.Test.YtbfeopakmjcapaaWhole
import Derived.Test.YtbfeopakmjcapaaBufP
set_option linter.unusedVariables false
set_option linter.unusedSimpArgs false
set_option maxHeartbeats 4000000
set_option maxRecDepth 8000
namespace Go.Proofs.Ytbfeopakmjcapaa.Tso
open Go.RowKit Go.Proofs.Ytbfeopakmjcapaa.Seq
attribute [local irreducible] wpStill wpList Calls CallsIn

/-- A thread that stands as another one does; its code stays. -/
def Th.as (t u : Th) : Th := { t with place := u.place, regs := u.regs, wait := u.wait, over := u.over }
def M.put (m : M) (who : Int) (u : Th) : M := match m.th who with
  | none => m
  | some t => if u.wait.length ≤ m.room then { m with ths := m.ths.set who.toNat (t.as u) } else m

theorem wpList_setA {P : Program} {ops : Array Oper} {rest : List Oper} {dst : Option Tmp} {ty tt : TypeId} {x y : Operand} {ps : String} {af : Array Edge} {a : Act} {w : World} {Q : Exit → Act → World → Prop} {b o : Nat} {C : Array Value} {T : TypeId} {v : Value}
    (zsx : a.eval x = .pointer (some ⟨b, o, none⟩)) (zsy : a.eval y = v) (zsv : v.cells = #[v]) (zs1 : v.oneCell' = true) (zsn : o < C.size) (zsi : (P.info? ty).map (·.size) = some 1) (zsb : Blk w b C T)
    (zsK : ∀ w', Blk w' b (C.setIfInBounds o v) T → Fr (fun k => k = b) w w' → w'.heap.size = w.heap.size → wpList P ops Q rest (a.put dst undef) w') : wpList P ops Q (⟨dst, .store ty x y, tt, ps, af, none⟩ :: rest) a w :=
  wpList_setF zsb rfl rfl zsx zsy zsv zs1 zsn zsi zsK
theorem wpList_storeAt {P : Program} {ops : Array Oper} {rest : List Oper} {dst : Option Tmp} {ty tt : TypeId} {x y : Operand} {ps : String} {af : Array Edge} {a : Act} {w : World} {Q : Exit → Act → World → Prop} {b o : Nat} {C cells : Array Value} {T : TypeId}
    (zsx : a.eval x = .pointer (some ⟨b, o, none⟩)) (zsy : a.eval y = .agg cells) (zsn : o + cells.size ≤ C.size) (zsi : (P.info? ty).map (·.size) = some cells.size) (zs1 : cells.toList.all (·.oneCell') = true) (zsb : Blk w b C T)
    (zsK : ∀ w', Blk w' b (C.toList.take o ++ cells.toList ++ C.toList.drop (o + cells.size)).toArray T → Fr (fun k => k = b) w w' → w'.heap.size = w.heap.size → wpList P ops Q rest (a.put dst undef) w') : wpList P ops Q (⟨dst, .store ty x y, tt, ps, af, none⟩ :: rest) a w :=
  wpList_storeB zsb rfl rfl zsx zsy zsn zsi zs1 zsK
theorem arr16 (x : Value) (cs rest : List Value) : ∀ j v, cs[j]? = some v → (x :: (cs ++ rest)).toArray[1 + j]? = some v := by
  intro j v h
  have hj := (List.getElem?_eq_some_iff.1 h).1
  rw [List.getElem?_toArray, Nat.add_comm, List.getElem?_cons_succ, List.getElem?_append_left hj]
  exact h
theorem szINT3 : (Try.prog.info? 3).map (·.size) = some 1 := by kernel_rfl
theorem szBOOL : (Try.prog.info? 4).map (·.size) = some 1 := by kernel_rfl
theorem unREGS : ∃ d, Try.prog.underlying 42 = some d ∧ d.isRow = true := ⟨_, Try.underlying42, rfl⟩
theorem szREGS : (Try.prog.info? 42).map (·.size) = some 16 := by kernel_rfl

theorem put_is (B : Nat) (R S : Nat → Prop) (ids : List (Nat × Nat)) (m : M) (who : Int) (u : Th) (a : Option Addr) (c : Nat) (w : World) (h : MR w R B ids m) (hu : u.regs.length = 16) (hv : Vw w 2 S a u.wait.length (ent u.wait)) (hS : ∀ k, S k → ¬ R k) (hl : u.wait.length ≤ 100000) :
    Calls Try.prog 61 #[.pointer (some ⟨B, 0, none⟩), .int .i64 who, .agg (standV u a c).toArray] w fun e w' => e = .returned (.tuple #[]) ∧ ∃ R', MR w' R' B ids (m.put who u) ∧ Mv R R' w w' := by
  have HR := hid h
  have HV := hid hv
  have HS := hid hS
  have hrl := h.lt
  have HRL := hid hrl
  clear hrl hv hS
  obtain ⟨ucode, place, uregs, uwait, over⟩ := u
  dsimp only at hu hl
  obtain ⟨s0, s1, s2, s3, s4, s5, s6, s7, s8, s9, s10, s11, s12, s13, s14, s15, rfl⟩ := list16 uregs hu
  obtain ⟨QL, hQL⟩ : ∃ QL, QL = uwait.length := ⟨_, rfl⟩
  have HX := hid (Blk.new w #[.int .i64 place, .int .i64 s0, .int .i64 s1, .int .i64 s2, .int .i64 s3, .int .i64 s4, .int .i64 s5, .int .i64 s6, .int .i64 s7, .int .i64 s8, .int .i64 s9, .int .i64 s10, .int .i64 s11, .int .i64 s12, .int .i64 s13, .int .i64 s14, .int .i64 s15, .slice a QL c, .bool over] 45)
  show Calls Try.prog 61 #[.pointer (some ⟨B, 0, none⟩), .int .i64 who, .agg #[.int .i64 place, .int .i64 s0, .int .i64 s1, .int .i64 s2, .int .i64 s3, .int .i64 s4, .int .i64 s5, .int .i64 s6, .int .i64 s7, .int .i64 s8, .int .i64 s9, .int .i64 s10, .int .i64 s11, .int .i64 s12, .int .i64 s13, .int .i64 s14, .int .i64 s15, .slice a uwait.length c, .bool over]] w _
  rw [← hQL]
  have HQL := hid hQL
  clear hu hQL
  obtain ⟨Q, hQ⟩ := h
  rcases th_cases hQ who with ⟨h1, h2⟩ | ⟨k, p, t, rfl, hp, ht, h1, h2, hrep⟩
  · have e : m.put who ⟨ucode, place, [s0, s1, s2, s3, s4, s5, s6, s7, s8, s9, s10, s11, s12, s13, s14, s15], uwait, over⟩ = m := by unfold M.put; rw [h2]
    rw [e]
    clear hQ e h2
    go_enter Try.func61, Try.ntmps61
    go_wp2_with (first | still_step | (with_reducible first | refine wpStill_nil ?_ | refine Flow.Both.mk ?_ ?_ | exact True.intro) | (with_reducible refine Flow.same_mk rfl rfl rfl ?_; go_simp; done) | (with_reducible exact Flow.same_un rfl rfl rfl) | (with_reducible refine Flow.region_flow (id := 3) [0, 0, 0, 0, 8, 0, 32, 0, 128, 25, 537, 1561, 3707, 7803, 15995, 32767, 65535, 131071] 149504 112632 [(0, none), (1, none), (2, none), (3, none), (4, none), (5, none), (6, none), (7, none), (8, none), (9, none), (10, none), (11, some [5, 6, 7, 8]), (12, none), (13, none), (14, some [7, 8]), (15, none), (16, none), (17, some [])] mixed ?hB ?_; (case hB => decide +kernel); simp only [Flow.textOf, Flow.q1, Flow.q2, Flow.q3, Flow.q4, Flow.q5, Flow.q6, Flow.q7, Flow.q8, Flow.q9, Flow.wpFl, Flow.SameAll]) | (with_reducible refine Flow.region_flow (id := 8) [0, 1, 3, 7, 0, 31] 32 30 [(0, none), (1, none), (2, none), (3, none), (4, none), (5, some [])] mixed ?hB ?_; (case hB => decide +kernel); simp only [Flow.textOf, Flow.q1, Flow.q2, Flow.q3, Flow.q4, Flow.q5, Flow.q6, Flow.q7, Flow.q8, Flow.q9, Flow.wpFl, Flow.SameAll]) | (refine Flow.region_still mixed ?hB ?_; (case hB => decide +kernel)))
    go_at_call 62
    refine (get_is B R ids m _ _ (HR.out.fr (S := fun _ => False) (by (with_reducible repeat' (first | exact Fr.refl _ _ | apply Fr.alloc | apply Fr.drew | apply Fr.drewN | refine Fr.setCell ?_ ?_ _))) (fun _ _ h => h))).mono ?_
    rintro e w1 ⟨rfl, hf⟩
    rw [h1]
    have HF1 := hid (show Fr (fun _ => False) w w1 from (show Fr (fun _ => False) w _ by (with_reducible repeat' (first | exact Fr.refl _ _ | apply Fr.alloc | apply Fr.drew | apply Fr.drewN | refine Fr.setCell ?_ ?_ _))).trans hf (fun _ _ h => h))
    clear hf HX
    go_wp2_with (first | still_step | (with_reducible first | refine wpStill_nil ?_ | refine Flow.Both.mk ?_ ?_ | exact True.intro) | (with_reducible refine Flow.same_mk rfl rfl rfl ?_; go_simp; done) | (with_reducible exact Flow.same_un rfl rfl rfl) | (with_reducible refine Flow.region_flow (id := 3) [0, 0, 0, 0, 8, 0, 32, 0, 128, 25, 537, 1561, 3707, 7803, 15995, 32767, 65535, 131071] 149504 112632 [(0, none), (1, none), (2, none), (3, none), (4, none), (5, none), (6, none), (7, none), (8, none), (9, none), (10, none), (11, some [5, 6, 7, 8]), (12, none), (13, none), (14, some [7, 8]), (15, none), (16, none), (17, some [])] mixed ?hB ?_; (case hB => decide +kernel); simp only [Flow.textOf, Flow.q1, Flow.q2, Flow.q3, Flow.q4, Flow.q5, Flow.q6, Flow.q7, Flow.q8, Flow.q9, Flow.wpFl, Flow.SameAll]) | (with_reducible refine Flow.region_flow (id := 8) [0, 1, 3, 7, 0, 31] 32 30 [(0, none), (1, none), (2, none), (3, none), (4, none), (5, some [])] mixed ?hB ?_; (case hB => decide +kernel); simp only [Flow.textOf, Flow.q1, Flow.q2, Flow.q3, Flow.q4, Flow.q5, Flow.q6, Flow.q7, Flow.q8, Flow.q9, Flow.wpFl, Flow.SameAll]) | (refine Flow.region_still mixed ?hB ?_; (case hB => decide +kernel)))
    (try simp only [Exit.inBlock, Exit.then])
    refine bodyPost_ret (results_none rfl _ _ _) rfl ?_
    have hF9 : Fr (fun _ => False) w w1.drew := HF1.out.drew
    exact ⟨rfl, R, HR.out.fr hF9 (fun _ _ h => h), Mv.of_fr hF9⟩
  · obtain ⟨g0, ⟨ca, cc, hb, hown⟩, hbuf⟩ := hrep
    have hlb := hbuf.lt
    have hpR := (hQ.inT p (List.mem_of_getElem? hp))
    have hBr : w.cell? ⟨B, 4, none⟩ = some (.int .i64 m.room) := by obtain ⟨_, _, _, _, _, _, _, _, hB, _⟩ := hQ.head; exact (hB.cell 4).trans rfl
    have hBl := hQ.lt B hQ.inB
    by_cases hroom : m.room < uwait.length
    · have e : m.put k ⟨ucode, place, [s0, s1, s2, s3, s4, s5, s6, s7, s8, s9, s10, s11, s12, s13, s14, s15], uwait, over⟩ = m := by unfold M.put; rw [h2]; dsimp only; rw [if_neg (by omega)]
      rw [e]
      rw [← HQL.out] at hroom hl
      clear hQ e h2 hb hbuf
      go_enter Try.func61, Try.ntmps61
      go_wp2_with (first | still_step | (with_reducible first | refine wpStill_nil ?_ | refine Flow.Both.mk ?_ ?_ | exact True.intro) | (with_reducible refine Flow.same_mk rfl rfl rfl ?_; go_simp; done) | (with_reducible exact Flow.same_un rfl rfl rfl) | (with_reducible refine Flow.region_flow (id := 3) [0, 0, 0, 0, 8, 0, 32, 0, 128, 25, 537, 1561, 3707, 7803, 15995, 32767, 65535, 131071] 149504 112632 [(0, none), (1, none), (2, none), (3, none), (4, none), (5, none), (6, none), (7, none), (8, none), (9, none), (10, none), (11, some [5, 6, 7, 8]), (12, none), (13, none), (14, some [7, 8]), (15, none), (16, none), (17, some [])] mixed ?hB ?_; (case hB => decide +kernel); simp only [Flow.textOf, Flow.q1, Flow.q2, Flow.q3, Flow.q4, Flow.q5, Flow.q6, Flow.q7, Flow.q8, Flow.q9, Flow.wpFl, Flow.SameAll]) | (with_reducible refine Flow.region_flow (id := 8) [0, 1, 3, 7, 0, 31] 32 30 [(0, none), (1, none), (2, none), (3, none), (4, none), (5, some [])] mixed ?hB ?_; (case hB => decide +kernel); simp only [Flow.textOf, Flow.q1, Flow.q2, Flow.q3, Flow.q4, Flow.q5, Flow.q6, Flow.q7, Flow.q8, Flow.q9, Flow.wpFl, Flow.SameAll]) | (refine Flow.region_still mixed ?hB ?_; (case hB => decide +kernel)))
      go_at_call 62
      refine (get_is B R ids m _ _ (HR.out.fr (S := fun _ => False) (by (with_reducible repeat' (first | exact Fr.refl _ _ | apply Fr.alloc | apply Fr.drew | apply Fr.drewN | refine Fr.setCell ?_ ?_ _))) (fun _ _ h => h))).mono ?_
      rintro e w1 ⟨rfl, hf⟩
      rw [h1]
      have HF1 := hid (show Fr (fun _ => False) w w1 from (show Fr (fun _ => False) w _ by (with_reducible repeat' (first | exact Fr.refl _ _ | apply Fr.alloc | apply Fr.drew | apply Fr.drewN | refine Fr.setCell ?_ ?_ _))).trans hf (fun _ _ h => h))
      have hx := HX.out.fr hf (fun h => h)
      have c0_x := Blk.cell hx 0
      have c1_x := Blk.cell hx 1
      have c2_x := Blk.cell hx 2
      have c3_x := Blk.cell hx 3
      have c4_x := Blk.cell hx 4
      have c5_x := Blk.cell hx 5
      have c6_x := Blk.cell hx 6
      have c7_x := Blk.cell hx 7
      have c8_x := Blk.cell hx 8
      have c9_x := Blk.cell hx 9
      have c10_x := Blk.cell hx 10
      have c11_x := Blk.cell hx 11
      have c12_x := Blk.cell hx 12
      have c13_x := Blk.cell hx 13
      have c14_x := Blk.cell hx 14
      have c15_x := Blk.cell hx 15
      have c16_x := Blk.cell hx 16
      have c17_x := Blk.cell hx 17
      have c18_x := Blk.cell hx 18
      have l_x := Blk.lt hx
      have hBr_ := Fr.cell HF1.out hBr (fun h => h)
      clear hBr
      have hBr := hBr_
      clear hBr_
      clear hf HX hx
      generalize m.room = MR at *
      go_wp2_with (first | still_step | (with_reducible first | refine wpStill_nil ?_ | refine Flow.Both.mk ?_ ?_ | exact True.intro) | (with_reducible refine Flow.same_mk rfl rfl rfl ?_; go_simp; done) | (with_reducible exact Flow.same_un rfl rfl rfl) | (with_reducible refine Flow.region_flow (id := 3) [0, 0, 0, 0, 8, 0, 32, 0, 128, 25, 537, 1561, 3707, 7803, 15995, 32767, 65535, 131071] 149504 112632 [(0, none), (1, none), (2, none), (3, none), (4, none), (5, none), (6, none), (7, none), (8, none), (9, none), (10, none), (11, some [5, 6, 7, 8]), (12, none), (13, none), (14, some [7, 8]), (15, none), (16, none), (17, some [])] mixed ?hB ?_; (case hB => decide +kernel); simp only [Flow.textOf, Flow.q1, Flow.q2, Flow.q3, Flow.q4, Flow.q5, Flow.q6, Flow.q7, Flow.q8, Flow.q9, Flow.wpFl, Flow.SameAll]) | (with_reducible refine Flow.region_flow (id := 8) [0, 1, 3, 7, 0, 31] 32 30 [(0, none), (1, none), (2, none), (3, none), (4, none), (5, some [])] mixed ?hB ?_; (case hB => decide +kernel); simp only [Flow.textOf, Flow.q1, Flow.q2, Flow.q3, Flow.q4, Flow.q5, Flow.q6, Flow.q7, Flow.q8, Flow.q9, Flow.wpFl, Flow.SameAll]) | (refine Flow.region_still mixed ?hB ?_; (case hB => decide +kernel)))
      (try simp only [Exit.inBlock, Exit.then])
      refine bodyPost_ret (results_none rfl _ _ _) rfl ?_
      have hF9 : Fr (fun _ => False) w w1.drew := HF1.out.drew
      exact ⟨rfl, R, HR.out.fr hF9 (fun _ _ h => h), Mv.of_fr hF9⟩
    · have e : m.put k ⟨ucode, place, [s0, s1, s2, s3, s4, s5, s6, s7, s8, s9, s10, s11, s12, s13, s14, s15], uwait, over⟩ = { m with ths := m.ths.set k (t.as ⟨ucode, place, [s0, s1, s2, s3, s4, s5, s6, s7, s8, s9, s10, s11, s12, s13, s14, s15], uwait, over⟩) } := by unfold M.put; rw [h2]; dsimp only; rw [if_pos (by omega)]; simp
      rw [e]
      rw [← HQL.out] at hroom hl
      obtain ⟨Sq, hSq, hSq2⟩ := buf_tight hbuf
      obtain ⟨tcode, tplace, tregs, twait, tover⟩ := t
      obtain ⟨r0, r1, r2, r3, r4, r5, r6, r7, r8, r9, r10, r11, r12, r13, r14, r15, rfl⟩ := list16 tregs g0
      have hb' : Blk w p.1 #[.pointer (some ⟨p.2, 0, none⟩), .slice ca tcode.length cc, .int .i64 tplace, .int .i64 r0, .int .i64 r1, .int .i64 r2, .int .i64 r3, .int .i64 r4, .int .i64 r5, .int .i64 r6, .int .i64 r7, .int .i64 r8, .int .i64 r9, .int .i64 r10, .int .i64 r11, .int .i64 r12, .int .i64 r13, .int .i64 r14, .int .i64 r15, .bool tover] 116 := hb
      have HB := hid hb'
      have HQ := hid hQ
      have HBF := hid hSq
      have HSQ := hid hSq2
      have HOW := hid hown
      have HT1 := hid (ty_blk hb)
      have HT2 := hid (buf_ty hbuf)
      have HRO := hid hbuf.2.2.1
      have hpb : ¬ (p.1 = p.2) := fun e => by have h1 := ty_blk hb; have h2 := buf_ty hbuf; rw [e, h2] at h1; exact absurd (Option.some.inj h1) (by decide)
      have hltp := hb.lt
      have hn1 : ¬ (p.1 = w.heap.size) := by omega
      have hn2 : ¬ (w.heap.size = p.1) := by omega
      have hn3 : ¬ (p.2 = w.heap.size) := by omega
      have HSP := hid (show ¬ Sq p.1 from fun h => by have h1 := ty_blk hb; rw [(hSq2 _ h).2.1] at h1; exact absurd (Option.some.inj h1) (by decide))
      have HSB := hid (show ∀ z, Sq z → z < w.heap.size from fun z hz => (hSq2 z hz).2.2)
      have HVD := hid (show ∀ z, S z → ¬ (z = p.1 ∨ z = p.2 ∨ Sq z) from fun z hz h => by
        rcases h with rfl | rfl | h
        · exact HS.out _ hz hpR.1
        · exact HS.out _ hz hpR.2
        · exact HS.out _ hz (hQ.inQ k z (hSq2 z h).1))
      clear hb' hb hbuf hQ hSq hSq2 g0 h2 e hown
      go_enter Try.func61, Try.ntmps61
      go_wp2_with (first | still_step | (with_reducible first | refine wpStill_nil ?_ | refine Flow.Both.mk ?_ ?_ | exact True.intro) | (with_reducible refine Flow.same_mk rfl rfl rfl ?_; go_simp; done) | (with_reducible exact Flow.same_un rfl rfl rfl) | (with_reducible refine Flow.region_flow (id := 3) [0, 0, 0, 0, 8, 0, 32, 0, 128, 25, 537, 1561, 3707, 7803, 15995, 32767, 65535, 131071] 149504 112632 [(0, none), (1, none), (2, none), (3, none), (4, none), (5, none), (6, none), (7, none), (8, none), (9, none), (10, none), (11, some [5, 6, 7, 8]), (12, none), (13, none), (14, some [7, 8]), (15, none), (16, none), (17, some [])] mixed ?hB ?_; (case hB => decide +kernel); simp only [Flow.textOf, Flow.q1, Flow.q2, Flow.q3, Flow.q4, Flow.q5, Flow.q6, Flow.q7, Flow.q8, Flow.q9, Flow.wpFl, Flow.SameAll]) | (with_reducible refine Flow.region_flow (id := 8) [0, 1, 3, 7, 0, 31] 32 30 [(0, none), (1, none), (2, none), (3, none), (4, none), (5, some [])] mixed ?hB ?_; (case hB => decide +kernel); simp only [Flow.textOf, Flow.q1, Flow.q2, Flow.q3, Flow.q4, Flow.q5, Flow.q6, Flow.q7, Flow.q8, Flow.q9, Flow.wpFl, Flow.SameAll]) | (refine Flow.region_still mixed ?hB ?_; (case hB => decide +kernel)))
      go_at_call 62
      refine (get_is B R ids m _ _ (HR.out.fr (S := fun _ => False) (by (with_reducible repeat' (first | exact Fr.refl _ _ | apply Fr.alloc | apply Fr.drew | apply Fr.drewN | refine Fr.setCell ?_ ?_ _))) (fun _ _ h => h))).mono ?_
      rintro e w1 ⟨rfl, hf⟩
      rw [h1]
      have HF1 := hid (show Fr (fun _ => False) w w1 from (show Fr (fun _ => False) w _ by (with_reducible repeat' (first | exact Fr.refl _ _ | apply Fr.alloc | apply Fr.drew | apply Fr.drewN | refine Fr.setCell ?_ ?_ _))).trans hf (fun _ _ h => h))
      have hx := HX.out.fr hf (fun h => h)
      have HX1 := hid hx
      have c0_x := Blk.cell hx 0
      have c1_x := Blk.cell hx 1
      have c2_x := Blk.cell hx 2
      have c3_x := Blk.cell hx 3
      have c4_x := Blk.cell hx 4
      have c5_x := Blk.cell hx 5
      have c6_x := Blk.cell hx 6
      have c7_x := Blk.cell hx 7
      have c8_x := Blk.cell hx 8
      have c9_x := Blk.cell hx 9
      have c10_x := Blk.cell hx 10
      have c11_x := Blk.cell hx 11
      have c12_x := Blk.cell hx 12
      have c13_x := Blk.cell hx 13
      have c14_x := Blk.cell hx 14
      have c15_x := Blk.cell hx 15
      have c16_x := Blk.cell hx 16
      have c17_x := Blk.cell hx 17
      have c18_x := Blk.cell hx 18
      have l_x := Blk.lt hx
      have hb1 := HB.out.fr HF1.out (fun h => h)
      have HB1 := hid hb1
      have hBr_ := Fr.cell HF1.out hBr (fun h => h)
      clear hBr
      have hBr := hBr_
      clear hBr_
      have hs1 := HF1.out.size
      clear hf HX hx hb1
      have f2_b := HB1.out.free 2
      have c2_b := HB1.out.cell 2
      go_wp2_with (first | ((with_reducible apply wpList_storeAt (b := p.1) (o := 3) (C := #[.pointer (some ⟨p.2, 0, none⟩), .slice ca tcode.length cc, .int .i64 place, .int .i64 r0, .int .i64 r1, .int .i64 r2, .int .i64 r3, .int .i64 r4, .int .i64 r5, .int .i64 r6, .int .i64 r7, .int .i64 r8, .int .i64 r9, .int .i64 r10, .int .i64 r11, .int .i64 r12, .int .i64 r13, .int .i64 r14, .int .i64 r15, .bool tover]) (cells := #[.int .i64 s0, .int .i64 s1, .int .i64 s2, .int .i64 s3, .int .i64 s4, .int .i64 s5, .int .i64 s6, .int .i64 s7, .int .i64 s8, .int .i64 s9, .int .i64 s10, .int .i64 s11, .int .i64 s12, .int .i64 s13, .int .i64 s14, .int .i64 s15]) (T := 116)); (case zsx => rfl); (case zsy => rfl); (case zsn => simp); (case zsi => exact szREGS); (case zs1 => rfl); (case zsb => exact (show Blk _ p.1 #[.pointer (some ⟨p.2, 0, none⟩), .slice ca tcode.length cc, .int .i64 place, .int .i64 r0, .int .i64 r1, .int .i64 r2, .int .i64 r3, .int .i64 r4, .int .i64 r5, .int .i64 r6, .int .i64 r7, .int .i64 r8, .int .i64 r9, .int .i64 r10, .int .i64 r11, .int .i64 r12, .int .i64 r13, .int .i64 r14, .int .i64 r15, .bool tover] 116 from Blk.set HB1.out 2 (.int .i64 place))); intro w3 hb3 hf3 hs3; have HB3 := hid (show Blk w3 p.1 #[.pointer (some ⟨p.2, 0, none⟩), .slice ca tcode.length cc, .int .i64 place, .int .i64 s0, .int .i64 s1, .int .i64 s2, .int .i64 s3, .int .i64 s4, .int .i64 s5, .int .i64 s6, .int .i64 s7, .int .i64 s8, .int .i64 s9, .int .i64 s10, .int .i64 s11, .int .i64 s12, .int .i64 s13, .int .i64 s14, .int .i64 s15, .bool tover] 116 from hb3); have HF3 := hid (show Fr (fun k => k = p.1) w1 w3 from Fr.trans (show Fr (fun k => k = p.1) w1 _ by (with_reducible repeat' (first | exact Fr.refl _ _ | apply Fr.alloc | apply Fr.drew | apply Fr.drewN | refine Fr.setCell ?_ ?_ _)) <;> exact fun _ => rfl) hf3 (fun _ _ h => h)); have hx3 := Blk.fr HX1.out HF3.out hn2; have c18_z := hx3.cell 18; have f19_z := HB3.out.free 19; have c19_z := HB3.out.cell 19; have l_z := HB3.out.lt; have c0_z := HB3.out.cell 0; clear hb3 hf3 hx3) | (with_reducible refine Flow.same_mk rfl rfl rfl ?_; exact run_loadB [.int .i64 s0, .int .i64 s1, .int .i64 s2, .int .i64 s3, .int .i64 s4, .int .i64 s5, .int .i64 s6, .int .i64 s7, .int .i64 s8, .int .i64 s9, .int .i64 s10, .int .i64 s11, .int .i64 s12, .int .i64 s13, .int .i64 s14, .int .i64 s15] (Blk.set_ne HX1.out hn2 _) (arr16 (.int .i64 place) [.int .i64 s0, .int .i64 s1, .int .i64 s2, .int .i64 s3, .int .i64 s4, .int .i64 s5, .int .i64 s6, .int .i64 s7, .int .i64 s8, .int .i64 s9, .int .i64 s10, .int .i64 s11, .int .i64 s12, .int .i64 s13, .int .i64 s14, .int .i64 s15] [.slice a QL c, .bool over]) rfl rfl unREGS.choose_spec.1 unREGS.choose_spec.2 szREGS) | still_step | (with_reducible first | refine wpStill_nil ?_ | refine Flow.Both.mk ?_ ?_ | exact True.intro) | (with_reducible refine Flow.same_mk rfl rfl rfl ?_; go_simp; done) | (with_reducible exact Flow.same_un rfl rfl rfl) | (with_reducible refine Flow.region_flow (id := 3) [0, 0, 0, 0, 8, 0, 32, 0, 128, 25, 537, 1561, 3707, 7803, 15995, 32767, 65535, 131071] 149504 112632 [(0, none), (1, none), (2, none), (3, none), (4, none), (5, none), (6, none), (7, none), (8, none), (9, none), (10, none), (11, some [5, 6, 7, 8]), (12, none), (13, none), (14, some [7, 8]), (15, none), (16, none), (17, some [])] mixed ?hB ?_; (case hB => decide +kernel); simp only [Flow.textOf, Flow.q1, Flow.q2, Flow.q3, Flow.q4, Flow.q5, Flow.q6, Flow.q7, Flow.q8, Flow.q9, Flow.wpFl, Flow.SameAll]) | (with_reducible refine Flow.region_flow (id := 8) [0, 1, 3, 7, 0, 31] 32 30 [(0, none), (1, none), (2, none), (3, none), (4, none), (5, some [])] mixed ?hB ?_; (case hB => decide +kernel); simp only [Flow.textOf, Flow.q1, Flow.q2, Flow.q3, Flow.q4, Flow.q5, Flow.q6, Flow.q7, Flow.q8, Flow.q9, Flow.wpFl, Flow.SameAll]) | (refine Flow.region_still mixed ?hB ?_; (case hB => decide +kernel)))
      go_at_call 82
      have hbs : Blk (w3.setCell ⟨p.1, 19, none⟩ (.bool over)) p.1 #[.pointer (some ⟨p.2, 0, none⟩), .slice ca tcode.length cc, .int .i64 place, .int .i64 s0, .int .i64 s1, .int .i64 s2, .int .i64 s3, .int .i64 s4, .int .i64 s5, .int .i64 s6, .int .i64 s7, .int .i64 s8, .int .i64 s9, .int .i64 s10, .int .i64 s11, .int .i64 s12, .int .i64 s13, .int .i64 s14, .int .i64 s15, .bool over] 116 := Blk.set HB3.out 19 (.bool over)
      have hfs : Fr (fun k => k = p.1) w (w3.setCell ⟨p.1, 19, none⟩ (.bool over)) := Fr.setCell ((HF1.out.mono (S2 := fun k => k = p.1) (fun _ _ h => h.elim)).trans HF3.out (fun _ _ h => h)) (fun _ => rfl) _
      refine (cut_all p.2 Sq m.room twait 0 _ (HBF.out.fr hfs (fun e => hpb e.symm) (fun z hz e => HSP.out (e ▸ hz)))).mono ?_
      rintro e w4 ⟨rfl, hbf4, hf4⟩
      have hsz1 := HX1.out.lt
      have hsz3 := HF3.out.size
      have hsz4 := hf4.size
      simp only [World.size_setCell] at hsz4
      rw [show (twait.take (0 : Int).toNat) = uwait.take 0 by simp] at hbf4
      have HBF4 := hid (hbf4.mono (R2 := fun z => Sq z ∨ (w.heap.size < z ∧ z < w4.heap.size)) (fun z _ h => .inl h) (fun h => by
        rcases h with h | h
        · exact HBF.out.2.2.2.1 h
        · omega))
      have HB4 := hid (hbs.fr hf4 hpb)
      have c17_w := Blk.cell (Blk.fr (Blk.set_ne (a := ⟨p.1, 19, none⟩) (Blk.fr HX1.out HF3.out hn2) hn2 (.bool over)) hf4 (fun e => hn3 e.symm)) 17
      have HF4 := hid (show Fr (fun z => z = p.1 ∨ z = p.2 ∨ Sq z) w w4 from (hfs.mono (fun _ _ h => .inl h)).trans (hf4.mono (S2 := fun z => z = p.1 ∨ z = p.2 ∨ Sq z) (fun _ _ h => .inr (.inl h))) (fun _ _ h => h))
      have hsz : w.heap.size < w4.heap.size := by omega
      clear hbs hfs hbf4 hf4 HB3 HF3 HX1 HB1 HF1 f2_b c2_b hsz1 hsz3 hsz4 c18_z f19_z c19_z l_z c0_z hs3
      clear c0_x c1_x c2_x c3_x c4_x c5_x c6_x c7_x c8_x c9_x c10_x c11_x c12_x c13_x c14_x c15_x c16_x c17_x c18_x l_x hs1
      go_wp2_with (first | still_step | (with_reducible first | refine wpStill_nil ?_ | refine Flow.Both.mk ?_ ?_ | exact True.intro) | (with_reducible refine Flow.same_mk rfl rfl rfl ?_; go_simp; done) | (with_reducible exact Flow.same_un rfl rfl rfl) | (with_reducible refine Flow.region_flow (id := 3) [0, 0, 0, 0, 8, 0, 32, 0, 128, 25, 537, 1561, 3707, 7803, 15995, 32767, 65535, 131071] 149504 112632 [(0, none), (1, none), (2, none), (3, none), (4, none), (5, none), (6, none), (7, none), (8, none), (9, none), (10, none), (11, some [5, 6, 7, 8]), (12, none), (13, none), (14, some [7, 8]), (15, none), (16, none), (17, some [])] mixed ?hB ?_; (case hB => decide +kernel); simp only [Flow.textOf, Flow.q1, Flow.q2, Flow.q3, Flow.q4, Flow.q5, Flow.q6, Flow.q7, Flow.q8, Flow.q9, Flow.wpFl, Flow.SameAll]) | (with_reducible refine Flow.region_flow (id := 8) [0, 1, 3, 7, 0, 31] 32 30 [(0, none), (1, none), (2, none), (3, none), (4, none), (5, some [])] mixed ?hB ?_; (case hB => decide +kernel); simp only [Flow.textOf, Flow.q1, Flow.q2, Flow.q3, Flow.q4, Flow.q5, Flow.q6, Flow.q7, Flow.q8, Flow.q9, Flow.wpFl, Flow.SameAll]) | (refine Flow.region_still mixed ?hB ?_; (case hB => decide +kernel)))
      go_loopw [47] (fun i wr => ∃ j : Nat, j ≤ QL ∧ i = .int .i64 j ∧ Blk wr p.1 #[.pointer (some ⟨p.2, 0, none⟩), .slice ca tcode.length cc, .int .i64 place, .int .i64 s0, .int .i64 s1, .int .i64 s2, .int .i64 s3, .int .i64 s4, .int .i64 s5, .int .i64 s6, .int .i64 s7, .int .i64 s8, .int .i64 s9, .int .i64 s10, .int .i64 s11, .int .i64 s12, .int .i64 s13, .int .i64 s14, .int .i64 s15, .bool over] 116 ∧ BufRep wr p.2 (fun z => Sq z ∨ (w.heap.size < z ∧ z < wr.heap.size)) m.room (uwait.take j) ∧ w.heap.size < wr.heap.size ∧ Fr (fun z => z = p.1 ∨ z = p.2 ∨ Sq z) w wr) (fun i _ => QL - (intOf i).toNat)
      case atStart => exact ⟨0, Nat.zero_le _, rfl, HB4.out, HBF4.out, hsz, HF4.out⟩
      case round =>
        obtain ⟨j, hj, rfl, hb, hbf, hsr, hf⟩ := hrel
        have c0 := (hb.cell 0)
        have lp := hb.lt
        have HB := hid hb
        have HBF := hid hbf
        have HF := hid hf
        clear hb hbf hf HB4 HBF4 HF4
        by_cases hlt : j < QL
        · have hjl : j < uwait.length := by have := HQL.out; omega
          have hne : ent uwait ≠ [] := fun h => by have := ent_length uwait; rw [h] at this; simp at this; omega
          obtain ⟨r0, off0, rfl, hr0, hcell⟩ := (HV.out.fr HF.out HVD.out).cell hne
          have c1 : wr.cell? ⟨r0, off0 + j * 2, none⟩ = some (.int .i64 uwait[j].1) := hcell (j * 2) _ (ent_get uwait j hjl).1
          have c2 : wr.cell? ⟨r0, off0 + j * 2 + 1, none⟩ = some (.int .i64 uwait[j].2) := hcell (j * 2 + 1) _ (ent_get uwait j hjl).2
          have htk : uwait.take (j + 1) = uwait.take j ++ [uwait[j]] := by rw [List.take_succ_eq_append_getElem hjl]
          have HTK := hid htk
          clear hcell hne htk
          generalize uwait[j] = e at *
          obtain ⟨x, y⟩ := e
          dsimp only at c1 c2
          go_wp2_with (first | still_step | (with_reducible first | refine wpStill_nil ?_ | refine Flow.Both.mk ?_ ?_ | exact True.intro) | (with_reducible refine Flow.same_mk rfl rfl rfl ?_; go_simp; done) | (with_reducible exact Flow.same_un rfl rfl rfl) | (with_reducible refine Flow.region_flow (id := 3) [0, 0, 0, 0, 8, 0, 32, 0, 128, 25, 537, 1561, 3707, 7803, 15995, 32767, 65535, 131071] 149504 112632 [(0, none), (1, none), (2, none), (3, none), (4, none), (5, none), (6, none), (7, none), (8, none), (9, none), (10, none), (11, some [5, 6, 7, 8]), (12, none), (13, none), (14, some [7, 8]), (15, none), (16, none), (17, some [])] mixed ?hB ?_; (case hB => decide +kernel); simp only [Flow.textOf, Flow.q1, Flow.q2, Flow.q3, Flow.q4, Flow.q5, Flow.q6, Flow.q7, Flow.q8, Flow.q9, Flow.wpFl, Flow.SameAll]) | (with_reducible refine Flow.region_flow (id := 8) [0, 1, 3, 7, 0, 31] 32 30 [(0, none), (1, none), (2, none), (3, none), (4, none), (5, some [])] mixed ?hB ?_; (case hB => decide +kernel); simp only [Flow.textOf, Flow.q1, Flow.q2, Flow.q3, Flow.q4, Flow.q5, Flow.q6, Flow.q7, Flow.q8, Flow.q9, Flow.wpFl, Flow.SameAll]) | (refine Flow.region_still mixed ?hB ?_; (case hB => decide +kernel)))
          go_at_call 83
          refine Calls.mono (push_all p.2 (fun z => Sq z ∨ (w.heap.size < z ∧ z < wr.heap.size)) m.room (uwait.take j) x y _ (HBF.out.fr (S := fun _ => False) (by (with_reducible repeat' (first | exact Fr.refl _ _ | apply Fr.alloc | apply Fr.drew | apply Fr.drewN | refine Fr.setCell ?_ ?_ _))) (fun h => h) (fun _ _ h => h))) ?_
          rintro e w6 ⟨rfl, hbf6, hf6⟩
          have hs6 := hf6.size
          simp only [World.size_drew, World.size_alloc] at hs6
          have hpl : pushL m.room (uwait.take j) (x, y) = uwait.take (j + 1) := by unfold pushL; rw [if_pos (by simp; omega), HTK.out]
          rw [hpl] at hbf6
          have hf' : Fr (fun z => z = p.2 ∨ Sq z ∨ (w.heap.size < z ∧ z < wr.heap.size)) wr w6 := (show Fr _ wr _ from ((Fr.refl _ wr).alloc _).drew).trans hf6 (fun _ _ h => h)
          have HBF6 := hid (hbf6.mono (R2 := fun z => Sq z ∨ (w.heap.size < z ∧ z < w6.heap.size)) (fun z hz h => by
            rcases h with (h | h) | h
            · exact .inl h
            · exact .inr ⟨h.1, by omega⟩
            · exact .inr ⟨by simp at h; omega, hz⟩) (fun h => by
            rcases h with h | h
            · exact HBF.out.2.2.2.1 (.inl h)
            · omega))
          have HB6 := hid (HB.out.fr hf' (fun h => by
            rcases h with h | h | h
            · exact hpb h
            · exact HSP.out h
            · omega))
          have HF6 := hid (HF.out.trans hf' (fun z hz h => by
            rcases h with h | h | h
            · exact .inr (.inl h)
            · exact .inr (.inr h)
            · omega))
          clear hbf6 hf6 hf' hpl HB HBF HF c0 c1 c2
          go_wp2_with (first | still_step | (with_reducible first | refine wpStill_nil ?_ | refine Flow.Both.mk ?_ ?_ | exact True.intro) | (with_reducible refine Flow.same_mk rfl rfl rfl ?_; go_simp; done) | (with_reducible exact Flow.same_un rfl rfl rfl) | (with_reducible refine Flow.region_flow (id := 3) [0, 0, 0, 0, 8, 0, 32, 0, 128, 25, 537, 1561, 3707, 7803, 15995, 32767, 65535, 131071] 149504 112632 [(0, none), (1, none), (2, none), (3, none), (4, none), (5, none), (6, none), (7, none), (8, none), (9, none), (10, none), (11, some [5, 6, 7, 8]), (12, none), (13, none), (14, some [7, 8]), (15, none), (16, none), (17, some [])] mixed ?hB ?_; (case hB => decide +kernel); simp only [Flow.textOf, Flow.q1, Flow.q2, Flow.q3, Flow.q4, Flow.q5, Flow.q6, Flow.q7, Flow.q8, Flow.q9, Flow.wpFl, Flow.SameAll]) | (with_reducible refine Flow.region_flow (id := 8) [0, 1, 3, 7, 0, 31] 32 30 [(0, none), (1, none), (2, none), (3, none), (4, none), (5, some [])] mixed ?hB ?_; (case hB => decide +kernel); simp only [Flow.textOf, Flow.q1, Flow.q2, Flow.q3, Flow.q4, Flow.q5, Flow.q6, Flow.q7, Flow.q8, Flow.q9, Flow.wpFl, Flow.SameAll]) | (refine Flow.region_still mixed ?hB ?_; (case hB => decide +kernel)))
          go_roundw
          case rel => exact ⟨j + 1, by omega, by go_num, HB6.out, HBF6.out, by omega, HF6.out⟩
          case measure => simp [intOf]; omega
        · obtain rfl : j = QL := by omega
          go_wp2_with (first | still_step | (with_reducible first | refine wpStill_nil ?_ | refine Flow.Both.mk ?_ ?_ | exact True.intro) | (with_reducible refine Flow.same_mk rfl rfl rfl ?_; go_simp; done) | (with_reducible exact Flow.same_un rfl rfl rfl) | (with_reducible refine Flow.region_flow (id := 3) [0, 0, 0, 0, 8, 0, 32, 0, 128, 25, 537, 1561, 3707, 7803, 15995, 32767, 65535, 131071] 149504 112632 [(0, none), (1, none), (2, none), (3, none), (4, none), (5, none), (6, none), (7, none), (8, none), (9, none), (10, none), (11, some [5, 6, 7, 8]), (12, none), (13, none), (14, some [7, 8]), (15, none), (16, none), (17, some [])] mixed ?hB ?_; (case hB => decide +kernel); simp only [Flow.textOf, Flow.q1, Flow.q2, Flow.q3, Flow.q4, Flow.q5, Flow.q6, Flow.q7, Flow.q8, Flow.q9, Flow.wpFl, Flow.SameAll]) | (with_reducible refine Flow.region_flow (id := 8) [0, 1, 3, 7, 0, 31] 32 30 [(0, none), (1, none), (2, none), (3, none), (4, none), (5, some [])] mixed ?hB ?_; (case hB => decide +kernel); simp only [Flow.textOf, Flow.q1, Flow.q2, Flow.q3, Flow.q4, Flow.q5, Flow.q6, Flow.q7, Flow.q8, Flow.q9, Flow.wpFl, Flow.SameAll]) | (refine Flow.region_still mixed ?hB ?_; (case hB => decide +kernel)))
          go_end0
          refine ⟨rfl, fun z => R z ∨ (w.heap.size < z ∧ z < wr.heap.size), ⟨fun j' => if j' = k then (fun z => Sq z ∨ (w.heap.size < z ∧ z < wr.heap.size)) else Q j', ?_⟩, fun z hz => .inl hz, fun z hz => hz.imp id (fun h => by omega), ?_⟩
          · refine HQ.out.setTh hp ht (S := fun z => z = p.1 ∨ z = p.2 ∨ Sq z) (Qi := fun z => Sq z ∨ (w.heap.size < z ∧ z < wr.heap.size)) ?_ HF.out (fun z hz => .inl hz) ?_ ?_ ?_ ?_
            · rintro z (rfl | rfl | hz)
              · exact .inl ⟨rfl, HT1.out⟩
              · exact .inr (.inl ⟨rfl, HT2.out⟩)
              · exact .inr (.inr ⟨(HSQ.out z hz).1, (HSQ.out z hz).2.1⟩)
            · rintro z (hz | hz)
              · have := HRL.out z hz; omega
              · exact hz.2
            · rintro z (hz | hz)
              · exact .inl (HSQ.out z hz).1
              · exact .inr (by omega)
            · rintro z (hz | hz)
              · exact .inl (HQ.out.inQ k z (HSQ.out z hz).1)
              · exact .inr hz
            · have htk : uwait.take j = uwait := List.take_of_length_le (by have := HQL.out; omega)
              have hbf := HBF.out
              rw [htk] at hbf
              refine ⟨rfl, ⟨ca, cc, HB.out, (own_frN HOW.out HF.out ?_).mono (fun z _ h => .inl h)⟩, hbf⟩
              rintro z (rfl | rfl | hz) e
              · rw [HT1.out] at e; exact absurd (Option.some.inj e) (by decide)
              · rw [HT2.out] at e; exact absurd (Option.some.inj e) (by decide)
              · rw [(HSQ.out z hz).2.1] at e; exact absurd (Option.some.inj e) (by decide)
          · refine HF.out.mono ?_
            rintro z _ (rfl | rfl | hz)
            · exact hpR.1
            · exact hpR.2
            · exact HQ.out.inQ k z (HSQ.out z hz).1
end Go.Proofs.Ytbfeopakmjcapaa.Tso
