/-
  Loads and stores: memory's words, and a thread's buffer.
-/
import Derived.Test.YtbfeopakmjcapaaTsoU
set_option linter.unusedVariables false
set_option linter.unusedSimpArgs false
set_option maxHeartbeats 4000000
set_option maxRecDepth 8000
namespace Go.Proofs.Ytbfeopakmjcapaa.Tso
open Go.RowKit Go.Proofs.Ytbfeopakmjcapaa.Seq
attribute [local irreducible] wpStill wpList Calls CallsIn

section
variable {w : World} {B : Nat} {R : Nat → Prop} {ids : List (Nat × Nat)} {Q : Nat → Nat → Prop} {m : M}

/-- The row of memory's words. -/
theorem memRow (h : MRep w B R ids Q m) : ∃ ma mc, w.cell? ⟨B, 1, none⟩ = some (.slice ma m.mem.length mc) ∧ (m.mem.length = 0 ∨ ∃ r off, ma = some ⟨r, off, none⟩) ∧
    ∀ x, x < m.mem.length → ∃ r off, ma = some ⟨r, off, none⟩ ∧ w.cell? ⟨r, off + x, none⟩ = some (.int .i64 (m.mem.getD x 0)) ∧ w.frozen? ⟨r, off + x, none⟩ = false ∧ R r ∧ tyAt w r = some 2 ∧
      ∀ v : Int, MRep (w.setCell ⟨r, off + x, none⟩ (.int .i64 v)) B R ids Q { m with mem := m.mem.set x v } ∧ Fr (fun k => k = r) w (w.setCell ⟨r, off + x, none⟩ (.int .i64 v)) := by
  obtain ⟨ta, tc, ma, mc, oa, oc, ea, ec, hb, g2, hm, g4, g5⟩ := h.head
  refine ⟨ma, mc, (hb.cell 1).trans rfl, ?_, fun x hx => ?_⟩
  · rcases hm.2.2.2 with h | ⟨r, off, C, e, _⟩
    · left; have := hm.1; omega
    · exact .inr ⟨r, off, e⟩
  · obtain ⟨r, off, rfl, hr, hfz, ⟨u, hu⟩, _, _⟩ := hm.set1 hx (.int .i64 0)
    have hne : ints m.mem ≠ [] := fun e => by have := ints_length m.mem; rw [e] at this; simp at this; omega
    obtain ⟨r', off', e', _, hc⟩ := hm.vw.cell hne
    simp only [Option.some.injEq, Addr.mk.injEq, and_true] at e'
    obtain ⟨rfl, rfl⟩ := e'
    have hty : tyAt w r = some 2 := by
      obtain ⟨g1, g2, g3, g4⟩ := hm
      rcases g4 with g | ⟨r2, o2, C, e2, _, hb2, _, _⟩
      · omega
      · simp only [Option.some.injEq, Addr.mk.injEq, and_true] at e2
        obtain ⟨rfl, rfl⟩ := e2
        exact ty_blk hb2
    refine ⟨r, off, rfl, hc x _ (ints_get m.mem x hx), hfz, hr, hty, fun v => ?_⟩
    obtain ⟨r3, off3, e3, _, _, _, ho3, hf⟩ := hm.set1 hx (.int .i64 v)
    simp only [Option.some.injEq, Addr.mk.injEq, and_true] at e3
    obtain ⟨rfl, rfl⟩ := e3
    have hn : ∀ T : TypeId, T ≠ 2 → ∀ k, k = r → tyAt w k = some T → False := fun T hT k hk e => by rw [hk, hty] at e; exact hT (Option.some.inj e).symm
    refine ⟨h.setHd (m1 := { m with mem := m.mem.set x v }) (fun k hk => .inr (.inl (by rw [hk]; exact hty))) hf (fun _ h => h) (fun k hk => Nat.lt_of_lt_of_le (h.lt k hk) hf.size) rfl rfl (fun ta2 tc2 hrow hc2 => ?_), hf⟩
    have hc' := (hb.cell 0).symm.trans hc2
    simp at hc'
    obtain ⟨rfl, rfl⟩ := hc'
    refine ⟨some ⟨r, off, none⟩, mc, oa, oc, ea, ec, ?_, ?_, own_frN g4 hf (fun k hk e => (hn _ (by decide) k hk e).elim), own_frN g5 hf (fun k hk e => (hn _ (by decide) k hk e).elim)⟩
    · have := blk_frN hb hf (fun k hk e => (hn _ (by decide) k hk e).elim)
      simpa using this
    · have e : ints (m.mem.set x v) = (ints m.mem).set x (.int .i64 v) := by simp [ints, List.map_set]
      rw [e]
      simpa using ho3
end

/-- A thread's buffer has changed. -/
theorem bufTh {w w1 : World} {B i : Nat} {R S Qn : Nat → Prop} {ids : List (Nat × Nat)} {Q : Nat → Nat → Prop} {m : M} {p : Nat × Nat} {t : Th} {l : List (Int × Int)} (h : MRep w B R ids Q m) (hp : ids[i]? = some p) (ht : m.ths[i]? = some t)
    (hS : ∀ k, S k → Q i k ∧ tyAt w k = some 124) (hf : Fr (fun k => k = p.2 ∨ S k) w w1) (hb : BufRep w1 p.2 Qn m.room l) (hQ : ∀ k, Qn k → S k ∨ w.heap.size ≤ k) :
    ∃ R1 Q1, MRep w1 B R1 ids Q1 { m with ths := m.ths.set i { t with wait := l } } ∧ Mv R R1 w w1 := by
  obtain ⟨Qt, hb2, hQt⟩ := buf_tight hb
  obtain ⟨g0, ⟨ca, cc, k1, k2⟩, k3⟩ := h.th hp ht
  have hb0 := buf_ty k3
  have hty : ∀ k, k = p.2 ∨ S k → tyAt w k = some 140 ∨ tyAt w k = some 124 := fun k hk => by
    rcases hk with hk | hk
    · exact .inl (by rw [hk]; exact hb0)
    · exact .inr (hS k hk).2
  refine ⟨fun k => R k ∨ (w.heap.size ≤ k ∧ k < w1.heap.size), _, h.setTh (t1 := { t with wait := l }) hp ht (Qi := Qt) (fun k hk => ?_) hf (fun k h => .inl h) (fun k hk => ?_) (fun k hk => ?_) (fun k hk => ?_) ⟨g0, ⟨ca, cc, ?_, ?_⟩, hb2⟩, fun k h => .inl h, fun k h => h.imp id (fun h => h.1), hf.mono (fun k _ hk => ?_)⟩
  · rcases hk with hk | hk
    · exact .inr (.inl ⟨hk, by rw [hk]; exact hb0⟩)
    · exact .inr (.inr (hS k hk))
  · rcases hk with hk | hk
    · exact Nat.lt_of_lt_of_le (h.lt k hk) hf.size
    · exact hk.2
  · rcases hQ k (hQt k hk).1 with h' | h'
    · exact .inl (hS k h').1
    · exact .inr h'
  · rcases hQ k (hQt k hk).1 with h' | h'
    · exact .inl (h.inQ i k (hS k h').1)
    · exact .inr ⟨h', (hQt k hk).2.2⟩
  · exact blk_frN k1 hf (fun k hk e => by rcases hty k hk with h | h <;> rw [h] at e <;> exact absurd (Option.some.inj e) (by decide))
  · exact (own_frN k2 hf (fun k hk e => by rcases hty k hk with h | h <;> rw [h] at e <;> exact absurd (Option.some.inj e) (by decide))).mono (fun k _ h => .inl h)
  · rcases hk with hk | hk
    · rw [hk]; exact (h.inT p (List.mem_of_getElem? hp)).2
    · exact h.inQ i k (hS k hk).1

theorem getL_newest (l : List (Int × Int)) (w : Int) : getL l w = match newest l w with | some x => (x, true) | none => (0, false) := by
  unfold getL newest
  cases l.reverse.find? (fun e => e.1 == w) <;> rfl

/-- What a load reads. -/
def loaded (m : M) (t : Th) (w : Int) : Int := match newest t.wait w with | some x => x | none => (memAt m.mem w).getD 0

theorem load_is (B i : Nat) (R : Nat → Prop) (ids : List (Nat × Nat)) (Q : Nat → Nat → Prop) (m : M) (p : Nat × Nat) (t : Th) (op d a b n to who : Int) (w : World) (h : MRep w B R ids Q m) (hp : ids[i]? = some p) (ht : m.ths[i]? = some t) (hd : 0 ≤ d ∧ d < 16) (ha : a < 16) :
    Calls Try.prog 72 #[.pointer (some ⟨B, 0, none⟩), .pointer (some ⟨p.1, 0, none⟩), .int .i64 who, .agg (insC ⟨4, op, d, a, b, n, to⟩).toArray] w fun e w' => e = .returned (.tuple #[leakV ⟨1, who, 0, t.word ⟨4, op, d, a, b, n, to⟩⟩, .bool true]) ∧
      MR w' R B ids { m with ths := m.ths.set i (t.set d (loaded m t (t.word ⟨4, op, d, a, b, n, to⟩))).step } ∧ Fr R w w' := by
  have hpR := (h.inT p (List.mem_of_getElem? hp))
  obtain ⟨g0, ⟨ca, cc, hb, _⟩, _⟩ := h.th hp ht
  have b2 := th2 hb
  have f2 := hb.free 2
  have hlt := hb.lt
  have HB := hid hb
  have HR := hid h
  obtain ⟨d4, hd4, hd5⟩ := unLK
  obtain ⟨z, rfl⟩ : ∃ z : Nat, d = z := ⟨Int.toNat d, by omega⟩
  have hz_z : z < 16 := by omega
  have b_z := thr hb g0 hz_z
  have f_z := hb.free (3 + z)
  obtain ⟨v_z, hv_z⟩ : ∃ v, v = t.regs.getD z 0 := ⟨_, rfl⟩
  rw [← hv_z] at b_z
  have HV_z := hid (show t.reg ((z : Nat) : Int) = v_z from hv_z.symm)
  clear hv_z
  (try simp only [HV_z.out])
  have n1_z : ¬ (3 + z = 2) := by omega
  have n2_z : ¬ (2 = 3 + z) := by omega
  clear hb h
  obtain ⟨wd, hwd⟩ : ∃ wd, wd = t.word ⟨4, op, (z : Int), a, b, n, to⟩ := ⟨_, rfl⟩
  rw [← hwd]
  have HW := hid hwd
  clear hwd
  obtain ⟨lo, hlo⟩ : ∃ lo, lo = loaded m t wd := ⟨_, rfl⟩
  rw [← hlo]
  unfold loaded at hlo
  have HLO := hid hlo
  clear hlo
  have hw0 := fun (w : World) (hr : MRep w B R ids Q m) => word_is R (Q i) p.1 p.2 m.room t ⟨4, op, (z : Int), a, b, n, to⟩ w (hr.th hp ht) ha
  rw [← HW.out] at hw0
  dsimp only [insC] at *
  go_enter Try.func72, Try.ntmps72
  go_wp2_with (first | still_step | (with_reducible first | refine wpStill_nil ?_ | refine Flow.Both.mk ?_ ?_ | exact True.intro) | (with_reducible refine Flow.same_mk rfl rfl rfl ?_; go_simp; done) | (with_reducible exact Flow.same_un rfl rfl rfl) | (with_reducible refine Flow.region_flow (id := 6) [0, 0, 2, 0, 1, 17, 63, 127] 128 118 [(0, none), (1, none), (2, none), (3, none), (4, none), (5, none), (6, none), (7, some [])] mixed ?hB ?_; (case hB => decide +kernel); simp only [Flow.textOf, Flow.q1, Flow.q2, Flow.q3, Flow.q4, Flow.q5, Flow.q6, Flow.q7, Flow.q8, Flow.q9, Flow.wpFl, Flow.SameAll]) | (refine Flow.region_still mixed ?hB ?_; (case hB => decide +kernel)))
  go_at_call 92
  refine (hw0 _ (HR.out.fr (S := fun _ => False) (by (with_reducible repeat' (first | exact Fr.refl _ _ | apply Fr.alloc | apply Fr.drew | apply Fr.drewN | refine Fr.setCell ?_ ?_ _))) (fun _ _ h => h))).mono ?_
  rintro e w1 ⟨rfl, hf1⟩
  have hx1 : Blk w1 w.heap.size #[.int .i64 4, .int .i64 op, .int .i64 z, .int .i64 a, .int .i64 b, .int .i64 n, .int .i64 to] 57 := by
    refine Blk.fr (S := fun _ => False) ?_ hf1 (fun h => h)
    (repeat' (first | with_reducible apply Blk.drew | (with_reducible refine Blk.new' ?_) | with_reducible apply Blk.alloc)) <;> first | rfl | (simp; done)
  have hl1 : Blk w1 (w.heap.size + 1) #[.int .i64 0, .int .i64 0, .int .i64 0, .int .i64 0] 37 := by
    refine Blk.fr (S := fun _ => False) ?_ hf1 (fun h => h)
    (repeat' (first | with_reducible apply Blk.drew | (with_reducible refine Blk.new' ?_) | with_reducible apply Blk.alloc)) <;> first | rfl | (simp; done)
  have HF1 := hid (show Fr (fun _ => False) w w1 from (show Fr (fun _ => False) w _ by (with_reducible repeat' (first | exact Fr.refl _ _ | apply Fr.alloc | apply Fr.drew | apply Fr.drewN | refine Fr.setCell ?_ ?_ _))).trans hf1 (fun _ _ h => h))
  have HL1 := hid hl1
  have HX1 := hid hx1
  have HB1 := hid (HB.out.fr HF1.out (fun h => h))
  have HR1 := hid (HR.out.fr HF1.out (fun _ _ h => h))
  have hlt1 := HB1.out.lt
  have hll1 := hl1.lt
  have hlx1 := hx1.lt
  have hnpx : ¬ (w.heap.size + 1 = p.1) := by omega
  have hnpy : ¬ (p.1 = w.heap.size + 1) := by omega
  have hnpz : ¬ (w.heap.size = p.1) := by omega
  have hnpw : ¬ (p.1 = w.heap.size) := by omega
  clear hl1 hf1
  have a0 := th0 HB1.out
  clear hx1
  go_wp2_with (first | still_step | (with_reducible first | refine wpStill_nil ?_ | refine Flow.Both.mk ?_ ?_ | exact True.intro) | (with_reducible refine Flow.same_mk rfl rfl rfl ?_; go_simp; done) | (with_reducible exact Flow.same_un rfl rfl rfl) | (with_reducible refine Flow.region_flow (id := 6) [0, 0, 2, 0, 1, 17, 63, 127] 128 118 [(0, none), (1, none), (2, none), (3, none), (4, none), (5, none), (6, none), (7, some [])] mixed ?hB ?_; (case hB => decide +kernel); simp only [Flow.textOf, Flow.q1, Flow.q2, Flow.q3, Flow.q4, Flow.q5, Flow.q6, Flow.q7, Flow.q8, Flow.q9, Flow.wpFl, Flow.SameAll]) | (refine Flow.region_still mixed ?hB ?_; (case hB => decide +kernel)))
  go_at_call 93
  refine (get_yes p.2 (Q i) m.room t.wait wd w1 (HR1.out.th hp ht).2.2).mono ?_
  rintro e w2 ⟨rfl, hf2⟩
  rw [getL_newest]
  have HX2 := hid (HX1.out.fr hf2 (fun h => h))
  have HL2 := hid (HL1.out.fr hf2 (fun h => h))
  have HB2 := hid (HB1.out.fr hf2 (fun h => h))
  have HR2 := hid (HR1.out.fr hf2 (fun _ _ h => h))
  have HF2 := hid (HF1.out.trans hf2 (fun _ _ h => h))
  clear HX1 HL1 HB1 HR1 HF1
  have hll2 := HL2.out.lt
  have hlt2 := HB2.out.lt
  have hlx2 := HX2.out.lt
  clear a0 hf2
  obtain ⟨ma, mc, c1, hma, hmem⟩ := memRow HR2.out
  have hat := at_is B ma mc m.mem.length wd w2 c1 hma
  have HAT := hid hat
  have HMEM := hid hmem
  clear hat hmem
  have hlo := HLO.out
  have hcase : (∃ x, newest t.wait wd = some x ∧ lo = x) ∨ (newest t.wait wd = none ∧ ∃ k : Nat, wd = k ∧ k < m.mem.length ∧ lo = m.mem.getD k 0) ∨ (newest t.wait wd = none ∧ ¬ (0 ≤ wd ∧ wd < m.mem.length) ∧ lo = 0) := by
    cases hn : newest t.wait wd with
    | some x => rw [hn] at hlo; exact .inl ⟨x, rfl, hlo⟩
    | none =>
      rw [hn] at hlo
      dsimp only [memAt] at hlo
      by_cases hr : 0 ≤ wd ∧ wd < m.mem.length
      · rw [if_pos hr] at hlo
        refine .inr (.inl ⟨rfl, wd.toNat, by omega, by omega, ?_⟩)
        rw [hlo]; simp
      · rw [if_neg hr] at hlo
        exact .inr (.inr ⟨rfl, hr, hlo⟩)
  clear hlo
  rcases hcase with ⟨x, hnw, rfl⟩ | ⟨hnw, k, rfl, hk, hlo⟩ | ⟨hnw, hr, rfl⟩
  · rw [hnw]
    dsimp only
    go_wp2_with (first | still_step | (with_reducible first | refine wpStill_nil ?_ | refine Flow.Both.mk ?_ ?_ | exact True.intro) | (with_reducible refine Flow.same_mk rfl rfl rfl ?_; go_simp; done) | (with_reducible exact Flow.same_un rfl rfl rfl) | (with_reducible refine Flow.region_flow (id := 6) [0, 0, 2, 0, 1, 17, 63, 127] 128 118 [(0, none), (1, none), (2, none), (3, none), (4, none), (5, none), (6, none), (7, some [])] mixed ?hB ?_; (case hB => decide +kernel); simp only [Flow.textOf, Flow.q1, Flow.q2, Flow.q3, Flow.q4, Flow.q5, Flow.q6, Flow.q7, Flow.q8, Flow.q9, Flow.wpFl, Flow.SameAll]) | (refine Flow.region_still mixed ?hB ?_; (case hB => decide +kernel)))
    go_at_call 81
    refine HAT.out.mono ?_
    rintro e w3 ⟨rfl, hf3⟩
    have HX3 := hid (HX2.out.fr hf3 (fun h => h))
    have HL3 := hid (HL2.out.fr hf3 (fun h => h))
    have HB3 := hid (HB2.out.fr hf3 (fun h => h))
    have HR3 := hid (HR2.out.fr hf3 (fun _ _ h => h))
    have HF3 := hid (HF2.out.trans hf3 (fun _ _ h => h))
    clear HX2 HL2 HB2 HR2 HF2
    have hll3 := HL3.out.lt
    have hlt3 := HB3.out.lt
    have hlx3 := HX3.out.lt
    clear hf3 c1
    have f_z := HB3.out.free (3 + z)
    have b_z := thr HB3.out g0 hz_z
    have f2 := HB3.out.free 2
    have b2 := th2 HB3.out
    have c0_x := Blk.cell HX3.out 0
    have f0_x := Blk.free HX3.out 0
    have c1_x := Blk.cell HX3.out 1
    have f1_x := Blk.free HX3.out 1
    have c2_x := Blk.cell HX3.out 2
    have f2_x := Blk.free HX3.out 2
    have c3_x := Blk.cell HX3.out 3
    have f3_x := Blk.free HX3.out 3
    have c4_x := Blk.cell HX3.out 4
    have f4_x := Blk.free HX3.out 4
    have c5_x := Blk.cell HX3.out 5
    have f5_x := Blk.free HX3.out 5
    have c6_x := Blk.cell HX3.out 6
    have f6_x := Blk.free HX3.out 6
    have l_x := Blk.lt HX3.out
    go_wp2_with (first | ((with_reducible apply wpList_storeA (b := w.heap.size + 1) (C := #[.int .i64 0, .int .i64 0, .int .i64 0, .int .i64 0]) (T := 37)); (case zsx => rfl); (case zsy => rfl); (case zsn => rfl); (case zsi => exact szLK); (case zs1 => rfl); (case zsb => ((repeat' (first | with_reducible exact HL1.out | with_reducible exact HL2.out | with_reducible exact HL3.out | with_reducible exact HL4.out | with_reducible apply Blk.drew | (with_reducible refine Blk.set_ne ?_ ?_ _))); all_goals (first | omega | (simp; omega) | (simp; done)))); intro w9 hb9 hf9 hs9; have HB9 := hid hb9; have HF9 := hid hf9; have HSZ9 := hid hs9; clear hb9 hf9 hs9) | still_step | (with_reducible first | refine wpStill_nil ?_ | refine Flow.Both.mk ?_ ?_ | exact True.intro) | (with_reducible refine Flow.same_mk rfl rfl rfl ?_; go_simp; done) | (with_reducible exact Flow.same_un rfl rfl rfl) | (with_reducible refine Flow.region_flow (id := 6) [0, 0, 2, 0, 1, 17, 63, 127] 128 118 [(0, none), (1, none), (2, none), (3, none), (4, none), (5, none), (6, none), (7, some [])] mixed ?hB ?_; (case hB => decide +kernel); simp only [Flow.textOf, Flow.q1, Flow.q2, Flow.q3, Flow.q4, Flow.q5, Flow.q6, Flow.q7, Flow.q8, Flow.q9, Flow.wpFl, Flow.SameAll]) | (refine Flow.region_still mixed ?hB ?_; (case hB => decide +kernel)))
    have hres := fun (C : Array Value) (hC : C.size = 4) (tmps : Array Value) (w : World) (b : Nat) (ha : tmps.getD 8 undef = .pointer (some ⟨b, 0, none⟩)) (hb : Blk w b C 37) => results_ct (P := Try.prog) Try.results72 ha hb hd4 hd5 (by rw [hC]; exact szLK)
    refine bodyPost_ret (hres _ rfl _ _ _ rfl HB9.out) rfl ?_
    refine ⟨rfl, MR.fr ⟨Q, blkTh HR3.out hp ht (t1 := (t.set z lo).step) ?tfr HB3.out ?tblk rfl rfl ?tlen⟩ HF9.out ?tR, ?tend⟩
    case tfr => (with_reducible repeat' (first | exact Fr.refl _ _ | apply Fr.alloc | apply Fr.drew | apply Fr.drewN | refine Fr.setCell ?_ ?_ _)) <;> exact fun _ => rfl
    case tblk => (repeat (with_reducible apply Blk.drew)); exact (setPlace (setReg HB3.out z (by omega) _) _)
    case tlen => simp [Th.step, Th.set, g0]
    case tR => intro k hk e; have := HR.out.lt k hk; omega
    case tend => exact ((HF3.out.mono (S2 := R) (fun k _ h => h.elim)).trans (Fr.mono (S := fun k => k = p.1) (S2 := R) (by (with_reducible repeat' (first | exact Fr.refl _ _ | apply Fr.alloc | apply Fr.drew | apply Fr.drewN | refine Fr.setCell ?_ ?_ _)) <;> exact fun _ => rfl) (fun k _ e => by rw [e]; exact hpR.1)) (fun _ _ h => h)).trans HF9.out (fun k hk e => by omega)
  · obtain ⟨r, off, rfl, hcell, _, _, _, _⟩ := HMEM.out k hk
    have hat := HAT.out
    rw [show wordPtr (some ⟨r, off, none⟩) m.mem.length (k : Int) = some ⟨r, off + k, none⟩ by simp [wordPtr, hk]] at hat
    rw [← hlo] at hcell
    clear hlo
    rw [hnw]
    dsimp only
    go_wp2_with (first | still_step | (with_reducible first | refine wpStill_nil ?_ | refine Flow.Both.mk ?_ ?_ | exact True.intro) | (with_reducible refine Flow.same_mk rfl rfl rfl ?_; go_simp; done) | (with_reducible exact Flow.same_un rfl rfl rfl) | (with_reducible refine Flow.region_flow (id := 6) [0, 0, 2, 0, 1, 17, 63, 127] 128 118 [(0, none), (1, none), (2, none), (3, none), (4, none), (5, none), (6, none), (7, some [])] mixed ?hB ?_; (case hB => decide +kernel); simp only [Flow.textOf, Flow.q1, Flow.q2, Flow.q3, Flow.q4, Flow.q5, Flow.q6, Flow.q7, Flow.q8, Flow.q9, Flow.wpFl, Flow.SameAll]) | (refine Flow.region_still mixed ?hB ?_; (case hB => decide +kernel)))
    go_at_call 81
    refine hat.mono ?_
    rintro e w3 ⟨rfl, hf3⟩
    have hcell_ := Fr.cell hf3 hcell (fun h => h)
    clear hcell
    have hcell := hcell_
    clear hcell_
    have hlr := World.block_lt_of_cell? _ _ hcell
    dsimp only at hlr
    have HX3 := hid (HX2.out.fr hf3 (fun h => h))
    have HL3 := hid (HL2.out.fr hf3 (fun h => h))
    have HB3 := hid (HB2.out.fr hf3 (fun h => h))
    have HR3 := hid (HR2.out.fr hf3 (fun _ _ h => h))
    have HF3 := hid (HF2.out.trans hf3 (fun _ _ h => h))
    clear HX2 HL2 HB2 HR2 HF2
    have hll3 := HL3.out.lt
    have hlt3 := HB3.out.lt
    have hlx3 := HX3.out.lt
    clear c1
    have f_z := HB3.out.free (3 + z)
    have b_z := thr HB3.out g0 hz_z
    have f2 := HB3.out.free 2
    have b2 := th2 HB3.out
    have c0_x := Blk.cell HX3.out 0
    have f0_x := Blk.free HX3.out 0
    have c1_x := Blk.cell HX3.out 1
    have f1_x := Blk.free HX3.out 1
    have c2_x := Blk.cell HX3.out 2
    have f2_x := Blk.free HX3.out 2
    have c3_x := Blk.cell HX3.out 3
    have f3_x := Blk.free HX3.out 3
    have c4_x := Blk.cell HX3.out 4
    have f4_x := Blk.free HX3.out 4
    have c5_x := Blk.cell HX3.out 5
    have f5_x := Blk.free HX3.out 5
    have c6_x := Blk.cell HX3.out 6
    have f6_x := Blk.free HX3.out 6
    have l_x := Blk.lt HX3.out
    go_wp2_with (first | ((with_reducible apply wpList_storeA (b := w.heap.size + 1) (C := #[.int .i64 0, .int .i64 0, .int .i64 0, .int .i64 0]) (T := 37)); (case zsx => rfl); (case zsy => rfl); (case zsn => rfl); (case zsi => exact szLK); (case zs1 => rfl); (case zsb => ((repeat' (first | with_reducible exact HL1.out | with_reducible exact HL2.out | with_reducible exact HL3.out | with_reducible exact HL4.out | with_reducible apply Blk.drew | (with_reducible refine Blk.set_ne ?_ ?_ _))); all_goals (first | omega | (simp; omega) | (simp; done)))); intro w9 hb9 hf9 hs9; have HB9 := hid hb9; have HF9 := hid hf9; have HSZ9 := hid hs9; clear hb9 hf9 hs9) | still_step | (with_reducible first | refine wpStill_nil ?_ | refine Flow.Both.mk ?_ ?_ | exact True.intro) | (with_reducible refine Flow.same_mk rfl rfl rfl ?_; go_simp; done) | (with_reducible exact Flow.same_un rfl rfl rfl) | (with_reducible refine Flow.region_flow (id := 6) [0, 0, 2, 0, 1, 17, 63, 127] 128 118 [(0, none), (1, none), (2, none), (3, none), (4, none), (5, none), (6, none), (7, some [])] mixed ?hB ?_; (case hB => decide +kernel); simp only [Flow.textOf, Flow.q1, Flow.q2, Flow.q3, Flow.q4, Flow.q5, Flow.q6, Flow.q7, Flow.q8, Flow.q9, Flow.wpFl, Flow.SameAll]) | (refine Flow.region_still mixed ?hB ?_; (case hB => decide +kernel)))
    have hres := fun (C : Array Value) (hC : C.size = 4) (tmps : Array Value) (w : World) (b : Nat) (ha : tmps.getD 8 undef = .pointer (some ⟨b, 0, none⟩)) (hb : Blk w b C 37) => results_ct (P := Try.prog) Try.results72 ha hb hd4 hd5 (by rw [hC]; exact szLK)
    refine bodyPost_ret (hres _ rfl _ _ _ rfl HB9.out) rfl ?_
    refine ⟨rfl, MR.fr ⟨Q, blkTh HR3.out hp ht (t1 := (t.set z lo).step) ?tfr HB3.out ?tblk rfl rfl ?tlen⟩ HF9.out ?tR, ?tend⟩
    case tfr => (with_reducible repeat' (first | exact Fr.refl _ _ | apply Fr.alloc | apply Fr.drew | apply Fr.drewN | refine Fr.setCell ?_ ?_ _)) <;> exact fun _ => rfl
    case tblk => (repeat (with_reducible apply Blk.drew)); exact (setPlace (setReg HB3.out z (by omega) _) _)
    case tlen => simp [Th.step, Th.set, g0]
    case tR => intro k hk e; have := HR.out.lt k hk; omega
    case tend => exact ((HF3.out.mono (S2 := R) (fun k _ h => h.elim)).trans (Fr.mono (S := fun k => k = p.1) (S2 := R) (by (with_reducible repeat' (first | exact Fr.refl _ _ | apply Fr.alloc | apply Fr.drew | apply Fr.drewN | refine Fr.setCell ?_ ?_ _)) <;> exact fun _ => rfl) (fun k _ e => by rw [e]; exact hpR.1)) (fun _ _ h => h)).trans HF9.out (fun k hk e => by omega)
  · have hat := HAT.out
    rw [show wordPtr ma m.mem.length wd = none by unfold wordPtr; rw [if_neg hr]] at hat
    rw [hnw]
    dsimp only
    go_wp2_with (first | still_step | (with_reducible first | refine wpStill_nil ?_ | refine Flow.Both.mk ?_ ?_ | exact True.intro) | (with_reducible refine Flow.same_mk rfl rfl rfl ?_; go_simp; done) | (with_reducible exact Flow.same_un rfl rfl rfl) | (with_reducible refine Flow.region_flow (id := 6) [0, 0, 2, 0, 1, 17, 63, 127] 128 118 [(0, none), (1, none), (2, none), (3, none), (4, none), (5, none), (6, none), (7, some [])] mixed ?hB ?_; (case hB => decide +kernel); simp only [Flow.textOf, Flow.q1, Flow.q2, Flow.q3, Flow.q4, Flow.q5, Flow.q6, Flow.q7, Flow.q8, Flow.q9, Flow.wpFl, Flow.SameAll]) | (refine Flow.region_still mixed ?hB ?_; (case hB => decide +kernel)))
    go_at_call 81
    refine hat.mono ?_
    rintro e w3 ⟨rfl, hf3⟩
    have HX3 := hid (HX2.out.fr hf3 (fun h => h))
    have HL3 := hid (HL2.out.fr hf3 (fun h => h))
    have HB3 := hid (HB2.out.fr hf3 (fun h => h))
    have HR3 := hid (HR2.out.fr hf3 (fun _ _ h => h))
    have HF3 := hid (HF2.out.trans hf3 (fun _ _ h => h))
    clear HX2 HL2 HB2 HR2 HF2
    have hll3 := HL3.out.lt
    have hlt3 := HB3.out.lt
    have hlx3 := HX3.out.lt
    clear c1
    have f_z := HB3.out.free (3 + z)
    have b_z := thr HB3.out g0 hz_z
    have f2 := HB3.out.free 2
    have b2 := th2 HB3.out
    have c0_x := Blk.cell HX3.out 0
    have f0_x := Blk.free HX3.out 0
    have c1_x := Blk.cell HX3.out 1
    have f1_x := Blk.free HX3.out 1
    have c2_x := Blk.cell HX3.out 2
    have f2_x := Blk.free HX3.out 2
    have c3_x := Blk.cell HX3.out 3
    have f3_x := Blk.free HX3.out 3
    have c4_x := Blk.cell HX3.out 4
    have f4_x := Blk.free HX3.out 4
    have c5_x := Blk.cell HX3.out 5
    have f5_x := Blk.free HX3.out 5
    have c6_x := Blk.cell HX3.out 6
    have f6_x := Blk.free HX3.out 6
    have l_x := Blk.lt HX3.out
    go_wp2_with (first | ((with_reducible apply wpList_storeA (b := w.heap.size + 1) (C := #[.int .i64 0, .int .i64 0, .int .i64 0, .int .i64 0]) (T := 37)); (case zsx => rfl); (case zsy => rfl); (case zsn => rfl); (case zsi => exact szLK); (case zs1 => rfl); (case zsb => ((repeat' (first | with_reducible exact HL1.out | with_reducible exact HL2.out | with_reducible exact HL3.out | with_reducible exact HL4.out | with_reducible apply Blk.drew | (with_reducible refine Blk.set_ne ?_ ?_ _))); all_goals (first | omega | (simp; omega) | (simp; done)))); intro w9 hb9 hf9 hs9; have HB9 := hid hb9; have HF9 := hid hf9; have HSZ9 := hid hs9; clear hb9 hf9 hs9) | still_step | (with_reducible first | refine wpStill_nil ?_ | refine Flow.Both.mk ?_ ?_ | exact True.intro) | (with_reducible refine Flow.same_mk rfl rfl rfl ?_; go_simp; done) | (with_reducible exact Flow.same_un rfl rfl rfl) | (with_reducible refine Flow.region_flow (id := 6) [0, 0, 2, 0, 1, 17, 63, 127] 128 118 [(0, none), (1, none), (2, none), (3, none), (4, none), (5, none), (6, none), (7, some [])] mixed ?hB ?_; (case hB => decide +kernel); simp only [Flow.textOf, Flow.q1, Flow.q2, Flow.q3, Flow.q4, Flow.q5, Flow.q6, Flow.q7, Flow.q8, Flow.q9, Flow.wpFl, Flow.SameAll]) | (refine Flow.region_still mixed ?hB ?_; (case hB => decide +kernel)))
    have hres := fun (C : Array Value) (hC : C.size = 4) (tmps : Array Value) (w : World) (b : Nat) (ha : tmps.getD 8 undef = .pointer (some ⟨b, 0, none⟩)) (hb : Blk w b C 37) => results_ct (P := Try.prog) Try.results72 ha hb hd4 hd5 (by rw [hC]; exact szLK)
    refine bodyPost_ret (hres _ rfl _ _ _ rfl HB9.out) rfl ?_
    refine ⟨rfl, MR.fr ⟨Q, blkTh HR3.out hp ht (t1 := (t.set z 0).step) ?tfr HB3.out ?tblk rfl rfl ?tlen⟩ HF9.out ?tR, ?tend⟩
    case tfr => (with_reducible repeat' (first | exact Fr.refl _ _ | apply Fr.alloc | apply Fr.drew | apply Fr.drewN | refine Fr.setCell ?_ ?_ _)) <;> exact fun _ => rfl
    case tblk => (repeat (with_reducible apply Blk.drew)); exact (setPlace (setReg HB3.out z (by omega) _) _)
    case tlen => simp [Th.step, Th.set, g0]
    case tR => intro k hk e; have := HR.out.lt k hk; omega
    case tend => exact ((HF3.out.mono (S2 := R) (fun k _ h => h.elim)).trans (Fr.mono (S := fun k => k = p.1) (S2 := R) (by (with_reducible repeat' (first | exact Fr.refl _ _ | apply Fr.alloc | apply Fr.drew | apply Fr.drewN | refine Fr.setCell ?_ ?_ _)) <;> exact fun _ => rfl) (fun k _ e => by rw [e]; exact hpR.1)) (fun _ _ h => h)).trans HF9.out (fun k hk e => by omega)

theorem store_no (B i : Nat) (R : Nat → Prop) (ids : List (Nat × Nat)) (Q : Nat → Nat → Prop) (m : M) (p : Nat × Nat) (t : Th) (op d a b n to who : Int) (w : World) (h : MRep w B R ids Q m) (hp : ids[i]? = some p) (ht : m.ths[i]? = some t) (ha : a < 16) (hb' : 0 ≤ b ∧ b < 16) (hroom : ¬ t.wait.length < m.room) :
    Calls Try.prog 73 #[.pointer (some ⟨B, 0, none⟩), .pointer (some ⟨p.1, 0, none⟩), .int .i64 who, .agg (insC ⟨5, op, d, a, b, n, to⟩).toArray] w fun e w' => e = .returned (.tuple #[leakV none_, .bool false]) ∧ MR w' R B ids m ∧ Fr R w w' := by
  have hpR := (h.inT p (List.mem_of_getElem? hp))
  obtain ⟨g0, ⟨ca, cc, hb, _⟩, _⟩ := h.th hp ht
  have b2 := th2 hb
  have f2 := hb.free 2
  have hlt := hb.lt
  have HB := hid hb
  have HR := hid h
  obtain ⟨d4, hd4, hd5⟩ := unLK
  obtain ⟨y, rfl⟩ : ∃ z : Nat, b = z := ⟨Int.toNat b, by omega⟩
  have hz_y : y < 16 := by omega
  have b_y := thr hb g0 hz_y
  have f_y := hb.free (3 + y)
  obtain ⟨v_y, hv_y⟩ : ∃ v, v = t.regs.getD y 0 := ⟨_, rfl⟩
  rw [← hv_y] at b_y
  have HV_y := hid (show t.reg ((y : Nat) : Int) = v_y from hv_y.symm)
  clear hv_y
  (try simp only [HV_y.out])
  have n1_y : ¬ (3 + y = 2) := by omega
  have n2_y : ¬ (2 = 3 + y) := by omega
  clear hb h
  obtain ⟨wd, hwd⟩ : ∃ wd, wd = t.word ⟨5, op, d, a, (y : Int), n, to⟩ := ⟨_, rfl⟩
  have HW := hid hwd
  clear hwd
  have hw0 := fun (w : World) (hr : MRep w B R ids Q m) => word_is R (Q i) p.1 p.2 m.room t ⟨5, op, d, a, (y : Int), n, to⟩ w (hr.th hp ht) ha
  rw [← HW.out] at hw0
  dsimp only [insC] at *
  go_enter Try.func73, Try.ntmps73
  go_wp2_with (first | still_step | (with_reducible first | refine wpStill_nil ?_ | refine Flow.Both.mk ?_ ?_ | exact True.intro) | (with_reducible refine Flow.same_mk rfl rfl rfl ?_; go_simp; done) | (with_reducible exact Flow.same_un rfl rfl rfl) | (with_reducible refine Flow.region_flow (id := 2) [0, 1, 3, 7, 0, 0, 0, 64, 32, 288, 992, 2016, 4080, 8191, 16383] 12288 20430 [(0, none), (1, none), (2, none), (3, none), (4, none), (5, none), (6, none), (7, none), (8, none), (9, none), (10, none), (11, none), (12, some [1, 2, 3]), (13, some []), (14, none)] mixed ?hB ?_; (case hB => decide +kernel); simp only [Flow.textOf, Flow.q1, Flow.q2, Flow.q3, Flow.q4, Flow.q5, Flow.q6, Flow.q7, Flow.q8, Flow.q9, Flow.wpFl, Flow.SameAll]) | (refine Flow.region_still mixed ?hB ?_; (case hB => decide +kernel)))
  go_at_call 92
  refine (hw0 _ (HR.out.fr (S := fun _ => False) (by (with_reducible repeat' (first | exact Fr.refl _ _ | apply Fr.alloc | apply Fr.drew | apply Fr.drewN | refine Fr.setCell ?_ ?_ _))) (fun _ _ h => h))).mono ?_
  rintro e w1 ⟨rfl, hf1⟩
  have hx1 : Blk w1 w.heap.size #[.int .i64 5, .int .i64 op, .int .i64 d, .int .i64 a, .int .i64 y, .int .i64 n, .int .i64 to] 57 := by
    refine Blk.fr (S := fun _ => False) ?_ hf1 (fun h => h)
    (repeat' (first | with_reducible apply Blk.drew | (with_reducible refine Blk.new' ?_) | with_reducible apply Blk.alloc)) <;> first | rfl | (simp; done)
  have hl1 : Blk w1 (w.heap.size + 1) #[.int .i64 0, .int .i64 0, .int .i64 0, .int .i64 0] 37 := by
    refine Blk.fr (S := fun _ => False) ?_ hf1 (fun h => h)
    (repeat' (first | with_reducible apply Blk.drew | (with_reducible refine Blk.new' ?_) | with_reducible apply Blk.alloc)) <;> first | rfl | (simp; done)
  have HF1 := hid (show Fr (fun _ => False) w w1 from (show Fr (fun _ => False) w _ by (with_reducible repeat' (first | exact Fr.refl _ _ | apply Fr.alloc | apply Fr.drew | apply Fr.drewN | refine Fr.setCell ?_ ?_ _))).trans hf1 (fun _ _ h => h))
  have HL1 := hid hl1
  have HX1 := hid hx1
  have HB1 := hid (HB.out.fr HF1.out (fun h => h))
  have HR1 := hid (HR.out.fr HF1.out (fun _ _ h => h))
  have hlt1 := HB1.out.lt
  have hll1 := hl1.lt
  have hlx1 := hx1.lt
  have hnpx : ¬ (w.heap.size + 1 = p.1) := by omega
  have hnpy : ¬ (p.1 = w.heap.size + 1) := by omega
  have hnpz : ¬ (w.heap.size = p.1) := by omega
  have hnpw : ¬ (p.1 = w.heap.size) := by omega
  clear hl1 hf1
  have a0 := th0 HB1.out
  have b_y_ := Fr.cell HF1.out b_y (fun h => h)
  clear b_y
  have b_y := b_y_
  clear b_y_
  have c0_x := Blk.cell HX1.out 0
  have f0_x := Blk.free HX1.out 0
  have c1_x := Blk.cell HX1.out 1
  have f1_x := Blk.free HX1.out 1
  have c2_x := Blk.cell HX1.out 2
  have f2_x := Blk.free HX1.out 2
  have c3_x := Blk.cell HX1.out 3
  have f3_x := Blk.free HX1.out 3
  have c4_x := Blk.cell HX1.out 4
  have f4_x := Blk.free HX1.out 4
  have c5_x := Blk.cell HX1.out 5
  have f5_x := Blk.free HX1.out 5
  have c6_x := Blk.cell HX1.out 6
  have f6_x := Blk.free HX1.out 6
  have l_x := Blk.lt HX1.out
  clear hx1
  go_wp2_with (first | still_step | (with_reducible first | refine wpStill_nil ?_ | refine Flow.Both.mk ?_ ?_ | exact True.intro) | (with_reducible refine Flow.same_mk rfl rfl rfl ?_; go_simp; done) | (with_reducible exact Flow.same_un rfl rfl rfl) | (with_reducible refine Flow.region_flow (id := 2) [0, 1, 3, 7, 0, 0, 0, 64, 32, 288, 992, 2016, 4080, 8191, 16383] 12288 20430 [(0, none), (1, none), (2, none), (3, none), (4, none), (5, none), (6, none), (7, none), (8, none), (9, none), (10, none), (11, none), (12, some [1, 2, 3]), (13, some []), (14, none)] mixed ?hB ?_; (case hB => decide +kernel); simp only [Flow.textOf, Flow.q1, Flow.q2, Flow.q3, Flow.q4, Flow.q5, Flow.q6, Flow.q7, Flow.q8, Flow.q9, Flow.wpFl, Flow.SameAll]) | (refine Flow.region_still mixed ?hB ?_; (case hB => decide +kernel)))
  go_at_call 83
  have hbuf := (HR1.out.th hp ht).2.2
  refine (push_no p.2 (Q i) m.room t.wait wd v_y _ (hbuf.fr (S := fun _ => False) (by (with_reducible repeat' (first | exact Fr.refl _ _ | apply Fr.alloc | apply Fr.drew | apply Fr.drewN | refine Fr.setCell ?_ ?_ _))) (fun h => h) (fun _ _ h => h)) (by have := hbuf.2.2.1; omega)).mono ?_
  clear hbuf
  rintro e w2 ⟨rfl, hf2⟩
  have hf2' := (show Fr (fun _ => False) w1 _ by (with_reducible repeat' (first | exact Fr.refl _ _ | apply Fr.alloc | apply Fr.drew | apply Fr.drewN | refine Fr.setCell ?_ ?_ _))).trans hf2 (fun _ _ h => h)
  have HX2 := hid (HX1.out.fr hf2' (fun h => h))
  have HL2 := hid (HL1.out.fr hf2' (fun h => h))
  have HB2 := hid (HB1.out.fr hf2' (fun h => h))
  have HR2 := hid (HR1.out.fr hf2' (fun _ _ h => h))
  have HF2 := hid (HF1.out.trans hf2' (fun _ _ h => h))
  clear HX1 HL1 HB1 HR1 HF1
  have hll2 := HL2.out.lt
  have hlt2 := HB2.out.lt
  have hlx2 := HX2.out.lt
  clear hf2 hf2' a0 b_y c0_x c1_x c2_x c3_x c4_x c5_x c6_x
  go_wp2_with (first | ((with_reducible apply wpList_storeA (b := w.heap.size + 1) (C := #[.int .i64 0, .int .i64 0, .int .i64 0, .int .i64 0]) (T := 37)); (case zsx => rfl); (case zsy => rfl); (case zsn => rfl); (case zsi => exact szLK); (case zs1 => rfl); (case zsb => ((repeat' (first | with_reducible exact HL1.out | with_reducible exact HL2.out | with_reducible exact HL3.out | with_reducible exact HL4.out | with_reducible apply Blk.drew | (with_reducible refine Blk.set_ne ?_ ?_ _))); all_goals (first | omega | (simp; omega) | (simp; done)))); intro w9 hb9 hf9 hs9; have HB9 := hid hb9; have HF9 := hid hf9; have HSZ9 := hid hs9; clear hb9 hf9 hs9) | still_step | (with_reducible first | refine wpStill_nil ?_ | refine Flow.Both.mk ?_ ?_ | exact True.intro) | (with_reducible refine Flow.same_mk rfl rfl rfl ?_; go_simp; done) | (with_reducible exact Flow.same_un rfl rfl rfl) | (with_reducible refine Flow.region_flow (id := 2) [0, 1, 3, 7, 0, 0, 0, 64, 32, 288, 992, 2016, 4080, 8191, 16383] 12288 20430 [(0, none), (1, none), (2, none), (3, none), (4, none), (5, none), (6, none), (7, none), (8, none), (9, none), (10, none), (11, none), (12, some [1, 2, 3]), (13, some []), (14, none)] mixed ?hB ?_; (case hB => decide +kernel); simp only [Flow.textOf, Flow.q1, Flow.q2, Flow.q3, Flow.q4, Flow.q5, Flow.q6, Flow.q7, Flow.q8, Flow.q9, Flow.wpFl, Flow.SameAll]) | (refine Flow.region_still mixed ?hB ?_; (case hB => decide +kernel)))
  have hres := fun (C : Array Value) (hC : C.size = 4) (tmps : Array Value) (w : World) (b : Nat) (ha : tmps.getD 8 undef = .pointer (some ⟨b, 0, none⟩)) (hb : Blk w b C 37) => results_ct (P := Try.prog) Try.results73 ha hb hd4 hd5 (by rw [hC]; exact szLK)
  refine bodyPost_ret (hres _ rfl _ _ _ rfl HB9.out) rfl ?_
  have hF9 : Fr (fun k => k = w.heap.size + 1) w2 w9 := by first | exact HF9.out | exact (Fr.refl _ _).drew.trans HF9.out (fun _ _ h => h)
  exact ⟨rfl, MR.fr ⟨Q, HR2.out⟩ hF9 (fun k hk e => by have := HR.out.lt k hk; omega), (HF2.out.mono (S2 := R) (fun k _ h => h.elim)).trans hF9 (fun k hk e => by omega)⟩

theorem store_yes (B i : Nat) (R : Nat → Prop) (ids : List (Nat × Nat)) (Q : Nat → Nat → Prop) (m : M) (p : Nat × Nat) (t : Th) (op d a b n to who : Int) (w : World) (h : MRep w B R ids Q m) (hp : ids[i]? = some p) (ht : m.ths[i]? = some t) (ha : a < 16) (hb' : 0 ≤ b ∧ b < 16) (hroom : t.wait.length < m.room) :
    Calls Try.prog 73 #[.pointer (some ⟨B, 0, none⟩), .pointer (some ⟨p.1, 0, none⟩), .int .i64 who, .agg (insC ⟨5, op, d, a, b, n, to⟩).toArray] w fun e w' => e = .returned (.tuple #[leakV ⟨2, who, 0, t.word ⟨5, op, d, a, b, n, to⟩⟩, .bool true]) ∧
      ∃ R', MR w' R' B ids { m with ths := m.ths.set i { t with wait := t.wait ++ [(t.word ⟨5, op, d, a, b, n, to⟩, t.reg b)] }.step } ∧ Mv R R' w w' := by
  have hpR := (h.inT p (List.mem_of_getElem? hp))
  obtain ⟨g0, ⟨ca, cc, hb, _⟩, _⟩ := h.th hp ht
  have b2 := th2 hb
  have f2 := hb.free 2
  have hlt := hb.lt
  have HB := hid hb
  have HR := hid h
  obtain ⟨d4, hd4, hd5⟩ := unLK
  obtain ⟨y, rfl⟩ : ∃ z : Nat, b = z := ⟨Int.toNat b, by omega⟩
  have hz_y : y < 16 := by omega
  have b_y := thr hb g0 hz_y
  have f_y := hb.free (3 + y)
  obtain ⟨v_y, hv_y⟩ : ∃ v, v = t.regs.getD y 0 := ⟨_, rfl⟩
  rw [← hv_y] at b_y
  have HV_y := hid (show t.reg ((y : Nat) : Int) = v_y from hv_y.symm)
  clear hv_y
  (try simp only [HV_y.out])
  have n1_y : ¬ (3 + y = 2) := by omega
  have n2_y : ¬ (2 = 3 + y) := by omega
  clear hb h
  obtain ⟨wd, hwd⟩ : ∃ wd, wd = t.word ⟨5, op, d, a, (y : Int), n, to⟩ := ⟨_, rfl⟩
  rw [← hwd]
  have HW := hid hwd
  clear hwd
  have hw0 := fun (w : World) (hr : MRep w B R ids Q m) => word_is R (Q i) p.1 p.2 m.room t ⟨5, op, d, a, (y : Int), n, to⟩ w (hr.th hp ht) ha
  rw [← HW.out] at hw0
  dsimp only [insC] at *
  go_enter Try.func73, Try.ntmps73
  go_wp2_with (first | still_step | (with_reducible first | refine wpStill_nil ?_ | refine Flow.Both.mk ?_ ?_ | exact True.intro) | (with_reducible refine Flow.same_mk rfl rfl rfl ?_; go_simp; done) | (with_reducible exact Flow.same_un rfl rfl rfl) | (with_reducible refine Flow.region_flow (id := 2) [0, 1, 3, 7, 0, 0, 0, 64, 32, 288, 992, 2016, 4080, 8191, 16383] 12288 20430 [(0, none), (1, none), (2, none), (3, none), (4, none), (5, none), (6, none), (7, none), (8, none), (9, none), (10, none), (11, none), (12, some [1, 2, 3]), (13, some []), (14, none)] mixed ?hB ?_; (case hB => decide +kernel); simp only [Flow.textOf, Flow.q1, Flow.q2, Flow.q3, Flow.q4, Flow.q5, Flow.q6, Flow.q7, Flow.q8, Flow.q9, Flow.wpFl, Flow.SameAll]) | (refine Flow.region_still mixed ?hB ?_; (case hB => decide +kernel)))
  go_at_call 92
  refine (hw0 _ (HR.out.fr (S := fun _ => False) (by (with_reducible repeat' (first | exact Fr.refl _ _ | apply Fr.alloc | apply Fr.drew | apply Fr.drewN | refine Fr.setCell ?_ ?_ _))) (fun _ _ h => h))).mono ?_
  rintro e w1 ⟨rfl, hf1⟩
  have hx1 : Blk w1 w.heap.size #[.int .i64 5, .int .i64 op, .int .i64 d, .int .i64 a, .int .i64 y, .int .i64 n, .int .i64 to] 57 := by
    refine Blk.fr (S := fun _ => False) ?_ hf1 (fun h => h)
    (repeat' (first | with_reducible apply Blk.drew | (with_reducible refine Blk.new' ?_) | with_reducible apply Blk.alloc)) <;> first | rfl | (simp; done)
  have hl1 : Blk w1 (w.heap.size + 1) #[.int .i64 0, .int .i64 0, .int .i64 0, .int .i64 0] 37 := by
    refine Blk.fr (S := fun _ => False) ?_ hf1 (fun h => h)
    (repeat' (first | with_reducible apply Blk.drew | (with_reducible refine Blk.new' ?_) | with_reducible apply Blk.alloc)) <;> first | rfl | (simp; done)
  have HF1 := hid (show Fr (fun _ => False) w w1 from (show Fr (fun _ => False) w _ by (with_reducible repeat' (first | exact Fr.refl _ _ | apply Fr.alloc | apply Fr.drew | apply Fr.drewN | refine Fr.setCell ?_ ?_ _))).trans hf1 (fun _ _ h => h))
  have HL1 := hid hl1
  have HX1 := hid hx1
  have HB1 := hid (HB.out.fr HF1.out (fun h => h))
  have HR1 := hid (HR.out.fr HF1.out (fun _ _ h => h))
  have hlt1 := HB1.out.lt
  have hll1 := hl1.lt
  have hlx1 := hx1.lt
  have hnpx : ¬ (w.heap.size + 1 = p.1) := by omega
  have hnpy : ¬ (p.1 = w.heap.size + 1) := by omega
  have hnpz : ¬ (w.heap.size = p.1) := by omega
  have hnpw : ¬ (p.1 = w.heap.size) := by omega
  clear hl1 hf1
  have a0 := th0 HB1.out
  have b_y_ := Fr.cell HF1.out b_y (fun h => h)
  clear b_y
  have b_y := b_y_
  clear b_y_
  have c0_x := Blk.cell HX1.out 0
  have f0_x := Blk.free HX1.out 0
  have c1_x := Blk.cell HX1.out 1
  have f1_x := Blk.free HX1.out 1
  have c2_x := Blk.cell HX1.out 2
  have f2_x := Blk.free HX1.out 2
  have c3_x := Blk.cell HX1.out 3
  have f3_x := Blk.free HX1.out 3
  have c4_x := Blk.cell HX1.out 4
  have f4_x := Blk.free HX1.out 4
  have c5_x := Blk.cell HX1.out 5
  have f5_x := Blk.free HX1.out 5
  have c6_x := Blk.cell HX1.out 6
  have f6_x := Blk.free HX1.out 6
  have l_x := Blk.lt HX1.out
  clear hx1
  go_wp2_with (first | still_step | (with_reducible first | refine wpStill_nil ?_ | refine Flow.Both.mk ?_ ?_ | exact True.intro) | (with_reducible refine Flow.same_mk rfl rfl rfl ?_; go_simp; done) | (with_reducible exact Flow.same_un rfl rfl rfl) | (with_reducible refine Flow.region_flow (id := 2) [0, 1, 3, 7, 0, 0, 0, 64, 32, 288, 992, 2016, 4080, 8191, 16383] 12288 20430 [(0, none), (1, none), (2, none), (3, none), (4, none), (5, none), (6, none), (7, none), (8, none), (9, none), (10, none), (11, none), (12, some [1, 2, 3]), (13, some []), (14, none)] mixed ?hB ?_; (case hB => decide +kernel); simp only [Flow.textOf, Flow.q1, Flow.q2, Flow.q3, Flow.q4, Flow.q5, Flow.q6, Flow.q7, Flow.q8, Flow.q9, Flow.wpFl, Flow.SameAll]) | (refine Flow.region_still mixed ?hB ?_; (case hB => decide +kernel)))
  go_at_call 83
  obtain ⟨S, hS, hS2⟩ := buf_tight (HR1.out.th hp ht).2.2
  have HS2 := hid hS2
  refine (push_yes p.2 S m.room t.wait wd v_y _ (hS.fr (S := fun _ => False) (by (with_reducible repeat' (first | exact Fr.refl _ _ | apply Fr.alloc | apply Fr.drew | apply Fr.drewN | refine Fr.setCell ?_ ?_ _))) (fun h => h) (fun _ _ h => h)) hroom).mono ?_
  clear hS hS2
  rintro e w2 ⟨rfl, hbf, hf2⟩
  have hf2' := (show Fr (fun k => k = p.2 ∨ S k) w1 _ by (with_reducible repeat' (first | exact Fr.refl _ _ | apply Fr.alloc | apply Fr.drew | apply Fr.drewN | refine Fr.setCell ?_ ?_ _))).trans hf2 (fun _ _ h => h)
  have hnb : ∀ k, tyAt w1 k ≠ some 140 → tyAt w1 k ≠ some 124 → ¬ (k = p.2 ∨ S k) := fun k h1 h2 h => by
    rcases h with h | h
    · exact h1 (by rw [h]; exact buf_ty (HR1.out.th hp ht).2.2)
    · exact h2 (HS2.out k h).2.1
  have hx2 := HX1.out.fr hf2' (hnb _ (by rw [ty_blk HX1.out]; decide) (by rw [ty_blk HX1.out]; decide))
  have hl2 := HL1.out.fr hf2' (hnb _ (by rw [ty_blk HL1.out]; decide) (by rw [ty_blk HL1.out]; decide))
  have hb2 := HB1.out.fr hf2' (hnb _ (by rw [ty_blk HB1.out]; decide) (by rw [ty_blk HB1.out]; decide))
  obtain ⟨R2, Q2, hm2, hv2⟩ := bufTh HR1.out hp ht (fun k hk => ⟨(HS2.out k hk).1, (HS2.out k hk).2.1⟩) hf2' hbf (fun k hk => hk.imp id (fun h => by (try simp at h); exact h))
  have HX2 := hid hx2
  have HL2 := hid hl2
  have HB2 := hid hb2
  have HR2 := hid hm2
  have HV2 := hid hv2
  have hsz2 := hf2'.size
  clear hf2 hf2' hnb hx2 hl2 hb2 hm2 hv2 hbf a0 b_y c0_x c1_x c2_x c3_x c4_x c5_x c6_x
  have f2 := HB2.out.free 2
  have b2 := th2 HB2.out
  have hlt2 := HB2.out.lt
  have hll2 := HL2.out.lt
  have hlx2 := HX2.out.lt
  have c0_x := Blk.cell HX2.out 0
  have f0_x := Blk.free HX2.out 0
  have c1_x := Blk.cell HX2.out 1
  have f1_x := Blk.free HX2.out 1
  have c2_x := Blk.cell HX2.out 2
  have f2_x := Blk.free HX2.out 2
  have c3_x := Blk.cell HX2.out 3
  have f3_x := Blk.free HX2.out 3
  have c4_x := Blk.cell HX2.out 4
  have f4_x := Blk.free HX2.out 4
  have c5_x := Blk.cell HX2.out 5
  have f5_x := Blk.free HX2.out 5
  have c6_x := Blk.cell HX2.out 6
  have f6_x := Blk.free HX2.out 6
  have l_x := Blk.lt HX2.out
  go_wp2_with (first | ((with_reducible apply wpList_storeA (b := w.heap.size + 1) (C := #[.int .i64 0, .int .i64 0, .int .i64 0, .int .i64 0]) (T := 37)); (case zsx => rfl); (case zsy => rfl); (case zsn => rfl); (case zsi => exact szLK); (case zs1 => rfl); (case zsb => ((repeat' (first | with_reducible exact HL1.out | with_reducible exact HL2.out | with_reducible exact HL3.out | with_reducible exact HL4.out | with_reducible apply Blk.drew | (with_reducible refine Blk.set_ne ?_ ?_ _))); all_goals (first | omega | (simp; omega) | (simp; done)))); intro w9 hb9 hf9 hs9; have HB9 := hid hb9; have HF9 := hid hf9; have HSZ9 := hid hs9; clear hb9 hf9 hs9) | still_step | (with_reducible first | refine wpStill_nil ?_ | refine Flow.Both.mk ?_ ?_ | exact True.intro) | (with_reducible refine Flow.same_mk rfl rfl rfl ?_; go_simp; done) | (with_reducible exact Flow.same_un rfl rfl rfl) | (with_reducible refine Flow.region_flow (id := 2) [0, 1, 3, 7, 0, 0, 0, 64, 32, 288, 992, 2016, 4080, 8191, 16383] 12288 20430 [(0, none), (1, none), (2, none), (3, none), (4, none), (5, none), (6, none), (7, none), (8, none), (9, none), (10, none), (11, none), (12, some [1, 2, 3]), (13, some []), (14, none)] mixed ?hB ?_; (case hB => decide +kernel); simp only [Flow.textOf, Flow.q1, Flow.q2, Flow.q3, Flow.q4, Flow.q5, Flow.q6, Flow.q7, Flow.q8, Flow.q9, Flow.wpFl, Flow.SameAll]) | (refine Flow.region_still mixed ?hB ?_; (case hB => decide +kernel)))
  have hres := fun (C : Array Value) (hC : C.size = 4) (tmps : Array Value) (w : World) (b : Nat) (ha : tmps.getD 8 undef = .pointer (some ⟨b, 0, none⟩)) (hb : Blk w b C 37) => results_ct (P := Try.prog) Try.results73 ha hb hd4 hd5 (by rw [hC]; exact szLK)
  refine bodyPost_ret (hres _ rfl _ _ _ rfl HB9.out) rfl ?_
  have hi : i < m.ths.length := (List.getElem?_eq_some_iff.1 ht).1
  have ht2 : (m.ths.set i { t with wait := t.wait ++ [(wd, v_y)] })[i]? = some { t with wait := t.wait ++ [(wd, v_y)] } := by simp [hi]
  have hmv : ∀ k, R2 k → ¬ (k = w.heap.size + 1) := fun k hk e => by
    rcases HV2.out.2.1 k hk with h | h
    · have := HR.out.lt k h; omega
    · omega
  have hm9 := blkTh HR2.out hp ht2 (t1 := { t with wait := t.wait ++ [(wd, v_y)] }.step) (w1 := w2.setCell ⟨p.1, 2, none⟩ (.int .i64 (wrap64 (t.place + 1)))) (by (with_reducible repeat' (first | exact Fr.refl _ _ | apply Fr.alloc | apply Fr.drew | apply Fr.drewN | refine Fr.setCell ?_ ?_ _)); exact fun _ => rfl) HB2.out (setPlace HB2.out _) rfl rfl (by simp [Th.step, g0])
  rw [List.set_set] at hm9
  have hF9 : Fr (fun k => k = w.heap.size + 1) (w2.setCell ⟨p.1, 2, none⟩ (.int .i64 (wrap64 (t.place + 1)))) w9 := by first | exact HF9.out | exact (Fr.refl _ _).drew.trans HF9.out (fun _ _ h => h)
  refine ⟨rfl, R2, MR.fr ⟨_, hm9⟩ hF9 hmv, HV2.out.1, fun k hk => ?_, ?_⟩
  · rcases HV2.out.2.1 k hk with h | h
    · exact .inl h
    · exact .inr (by have := HF1.out.size; omega)
  · refine ((HF1.out.mono (S2 := R) (fun k _ h => h.elim)).trans HV2.out.2.2 (fun _ _ h => h)).trans (S := R) (S2 := fun k => k = p.1 ∨ k = w.heap.size + 1) ?_ (fun k hk e => ?_)
    · exact (Fr.mono (S := fun k => k = p.1) (by (with_reducible repeat' (first | exact Fr.refl _ _ | apply Fr.alloc | apply Fr.drew | apply Fr.drewN | refine Fr.setCell ?_ ?_ _)); exact fun _ => rfl) (fun k _ e => .inl e)).trans hF9 (fun k _ e => .inr e)
    · rcases e with e | e
      · rw [e]; exact hpR.1
      · omega
end Go.Proofs.Ytbfeopakmjcapaa.Tso
