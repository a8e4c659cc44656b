/-
  Instructions that are events: the owners of locks.
-/
import Derived.Test.YtbfeopakmjcapaaTsoV
set_option linter.unusedVariables false
set_option linter.unusedSimpArgs false
set_option maxHeartbeats 4000000
set_option maxRecDepth 8000
namespace Go.Proofs.Ytbfeopakmjcapaa.Tso
open Go.RowKit Go.Proofs.Ytbfeopakmjcapaa.Seq
attribute [local irreducible] wpStill wpList Calls CallsIn

section
variable {w : World} {B : Nat} {R : Nat → Prop} {ids : List (Nat × Nat)} {Q : Nat → Nat → Prop} {m : M}

/-- The row of owners. -/
theorem ownRow (h : MRep w B R ids Q m) : ∃ oa oc, w.cell? ⟨B, 2, none⟩ = some (.slice oa m.own.length oc) ∧ (m.own.length = 0 ∨ ∃ r off, oa = some ⟨r, off, none⟩) ∧
    ∀ x, x < m.own.length → ∃ r off, oa = some ⟨r, off, none⟩ ∧ w.cell? ⟨r, off + x, none⟩ = some (.int .i64 (m.own.getD x (-1))) ∧ w.frozen? ⟨r, off + x, none⟩ = false ∧ R r ∧ tyAt w r = some 3 ∧
      ∀ v : Int, MRep (w.setCell ⟨r, off + x, none⟩ (.int .i64 v)) B R ids Q { m with own := m.own.set x v } ∧ Fr (fun k => k = r) w (w.setCell ⟨r, off + x, none⟩ (.int .i64 v)) := by
  obtain ⟨ta, tc, ma, mc, oa, oc, ea, ec, hb, g2, g4, hm, g5⟩ := h.head
  refine ⟨oa, oc, (hb.cell 2).trans rfl, ?_, fun x hx => ?_⟩
  · rcases hm.2.2.2 with h | ⟨r, off, C, e, _⟩
    · left; have := hm.1; omega
    · exact .inr ⟨r, off, e⟩
  · obtain ⟨r, off, rfl, hr, hfz, ⟨u, hu⟩, _, _⟩ := hm.set1 hx (.int .i64 0)
    have hne : ints m.own ≠ [] := fun e => by have := ints_length m.own; rw [e] at this; simp at this; omega
    obtain ⟨r', off', e', _, hc⟩ := hm.vw.cell hne
    simp only [Option.some.injEq, Addr.mk.injEq, and_true] at e'
    obtain ⟨rfl, rfl⟩ := e'
    have hty : tyAt w r = some 3 := by
      obtain ⟨g1, g2, g3, g4⟩ := hm
      rcases g4 with g | ⟨r2, o2, C, e2, _, hb2, _, _⟩
      · omega
      · simp only [Option.some.injEq, Addr.mk.injEq, and_true] at e2
        obtain ⟨rfl, rfl⟩ := e2
        exact ty_blk hb2
    refine ⟨r, off, rfl, (hc x _ (ints_get' m.own x hx)).trans (by simp [hx]), hfz, hr, hty, fun v => ?_⟩
    obtain ⟨r3, off3, e3, _, _, _, ho3, hf⟩ := hm.set1 hx (.int .i64 v)
    simp only [Option.some.injEq, Addr.mk.injEq, and_true] at e3
    obtain ⟨rfl, rfl⟩ := e3
    have hn : ∀ T : TypeId, T ≠ 3 → ∀ k, k = r → tyAt w k = some T → False := fun T hT k hk e => by rw [hk, hty] at e; exact hT (Option.some.inj e).symm
    refine ⟨h.setHd (m1 := { m with own := m.own.set x v }) (fun k hk => .inr (.inr (.inl (by rw [hk]; exact hty)))) hf (fun _ h => h) (fun k hk => Nat.lt_of_lt_of_le (h.lt k hk) hf.size) rfl rfl (fun ta2 tc2 hrow hc2 => ?_), hf⟩
    have hc' := (hb.cell 0).symm.trans hc2
    simp at hc'
    obtain ⟨rfl, rfl⟩ := hc'
    refine ⟨ma, mc, some ⟨r, off, none⟩, oc, ea, ec, ?_, own_frN g4 hf (fun k hk e => (hn _ (by decide) k hk e).elim), ?_, own_frN g5 hf (fun k hk e => (hn _ (by decide) k hk e).elim)⟩
    · have := blk_frN hb hf (fun k hk e => (hn _ (by decide) k hk e).elim)
      simpa using this
    · have e : ints (m.own.set x v) = (ints m.own).set x (.int .i64 v) := by simp [ints, List.map_set]
      rw [e]
      simpa using ho3
end

theorem trap_is (B i : Nat) (R : Nat → Prop) (ids : List (Nat × Nat)) (Q : Nat → Nat → Prop) (m : M) (p : Nat × Nat) (t : Th) (op d a b n to who : Int) (w : World) (h : MRep w B R ids Q m) (hp : ids[i]? = some p) (ht : m.ths[i]? = some t) (hev : evRoom m) :
    Calls Try.prog 77 #[.pointer (some ⟨B, 0, none⟩), .pointer (some ⟨p.1, 0, none⟩), .int .i64 who, .agg (insC ⟨12, op, d, a, b, n, to⟩).toArray] w fun e w' => e = .returned (.tuple #[leakV ⟨5, who, 3, n⟩, .bool true]) ∧
      ∃ R', MR w' R' B ids { m with ths := m.ths.set i { t with over := true }, events := m.events ++ [⟨3, who, n⟩] } ∧ Mv R R' w w' := by
  have hpR := (h.inT p (List.mem_of_getElem? hp))
  obtain ⟨g0, ⟨ca, cc, hb, _⟩, _⟩ := h.th hp ht
  have b2 := th2 hb
  have f2 := hb.free 2
  have hlt := hb.lt
  have HB := hid hb
  have HR := hid h
  obtain ⟨d4, hd4, hd5⟩ := unLK
  have b19 := th19 hb g0
  have f19 := hb.free 19
  clear hb h
  dsimp only [insC] at *
  go_enter Try.func77, Try.ntmps77
  go_wp2_with (first | still_step | (with_reducible first | refine wpStill_nil ?_ | refine Flow.Both.mk ?_ ?_ | exact True.intro) | (with_reducible refine Flow.same_mk rfl rfl rfl ?_; go_simp; done) | (with_reducible exact Flow.same_un rfl rfl rfl) | (refine Flow.region_still mixed ?hB ?_; (case hB => decide +kernel)))
  go_at_call 95
  obtain ⟨wq, hwq⟩ : ∃ wq, wq = w := ⟨_, rfl⟩
  have hmq := fun (w1 : World) (hf : Fr (fun k => k = p.1) w w1) (hb : Blk w1 p.1 (thC p.2 ca cc { t with over := true }).toArray 116) => blkTh HR.out hp ht (t1 := { t with over := true }) hf HB.out hb rfl rfl (by simp [Th.step, g0])
  refine (did_is B R ids { m with ths := m.ths.set i { t with over := true } } 3 who n _ ⟨Q, hmq _ (by (with_reducible repeat' (first | exact Fr.refl _ _ | apply Fr.alloc | apply Fr.drew | apply Fr.drewN | refine Fr.setCell ?_ ?_ _)) <;> exact fun _ => rfl) (by (repeat (first | with_reducible apply Blk.drew | with_reducible apply Blk.alloc)); exact setOver HB.out g0 true)⟩ hev).mono ?_
  rintro e w1 ⟨rfl, R1, hm1, hv1⟩
  dsimp only [leakV]
  have HM1 := hid hm1
  have HV1 := hid (show (∀ k, R k → R1 k) ∧ (∀ k, R1 k → R k ∨ w.heap.size ≤ k) ∧ (∀ k, R1 k → ¬ (k = w.heap.size + 1)) ∧ Fr R w w1 from ⟨hv1.1, fun k hk => by
      rcases hv1.2.1 k hk with h | h
      · exact .inl h
      · exact .inr (by (try simp at h); omega), fun k hk e => by
      rcases hv1.2.1 k hk with h | h
      · have := HR.out.lt k h; omega
      · (try simp at h); omega, (Fr.mono (S := fun k => k = p.1) (S2 := R) (by (with_reducible repeat' (first | exact Fr.refl _ _ | apply Fr.alloc | apply Fr.drew | apply Fr.drewN | refine Fr.setCell ?_ ?_ _)) <;> exact fun _ => rfl) (fun k _ e => by rw [e]; exact hpR.1)).trans hv1.2.2 (fun _ _ h => h)⟩)
  have hl1 : Blk w1 (w.heap.size + 1) #[.int .i64 0, .int .i64 0, .int .i64 0, .int .i64 0] 37 := by
    refine Blk.fr (S := R) ?_ hv1.2.2 (fun hk => by have := HR.out.lt _ hk; omega)
    (repeat' (first | with_reducible apply Blk.drew | (with_reducible refine Blk.new' ?_) | (with_reducible refine Blk.set_ne ?_ ?_ _) | with_reducible apply Blk.alloc)) <;> first | rfl | (simp; done) | (simp; omega)
  have HL1 := hid hl1
  clear hm1 hv1 hl1 hmq hwq
  go_wp2_with (first | ((with_reducible apply wpList_storeA (b := w.heap.size + 1) (C := #[.int .i64 0, .int .i64 0, .int .i64 0, .int .i64 0]) (T := 37)); (case zsx => rfl); (case zsy => rfl); (case zsn => rfl); (case zsi => exact szLK); (case zs1 => rfl); (case zsb => ((repeat' (first | with_reducible exact HL1.out | with_reducible exact HL2.out | with_reducible exact HL3.out | with_reducible exact HL4.out | with_reducible apply Blk.drew | (with_reducible refine Blk.set_ne ?_ ?_ _))); all_goals (first | omega | (simp; omega) | (simp; done)))); intro w9 hb9 hf9 hs9; have HB9 := hid hb9; have HF9 := hid hf9; have HSZ9 := hid hs9; clear hb9 hf9 hs9) | still_step | (with_reducible first | refine wpStill_nil ?_ | refine Flow.Both.mk ?_ ?_ | exact True.intro) | (with_reducible refine Flow.same_mk rfl rfl rfl ?_; go_simp; done) | (with_reducible exact Flow.same_un rfl rfl rfl) | (refine Flow.region_still mixed ?hB ?_; (case hB => decide +kernel)))
  have hres := fun (C : Array Value) (hC : C.size = 4) (tmps : Array Value) (w : World) (b : Nat) (ha : tmps.getD 8 undef = .pointer (some ⟨b, 0, none⟩)) (hb : Blk w b C 37) => results_ct (P := Try.prog) Try.results77 ha hb hd4 hd5 (by rw [hC]; exact szLK)
  refine bodyPost_ret (hres _ rfl _ _ _ rfl HB9.out) rfl ?_
  have hF9 : Fr (fun k => k = w.heap.size + 1) w1 w9 := by first | exact HF9.out | exact (Fr.refl _ _).drew.trans HF9.out (fun _ _ h => h)
  exact ⟨rfl, R1, MR.fr HM1.out hF9 HV1.out.2.2.1, HV1.out.1, HV1.out.2.1, HV1.out.2.2.2.trans hF9 (fun k hk e => by omega)⟩

theorem halt_is (B i : Nat) (R : Nat → Prop) (ids : List (Nat × Nat)) (Q : Nat → Nat → Prop) (m : M) (p : Nat × Nat) (t : Th) (op d a b n to who : Int) (w : World) (h : MRep w B R ids Q m) (hp : ids[i]? = some p) (ht : m.ths[i]? = some t) (hev : evRoom m) :
    Calls Try.prog 78 #[.pointer (some ⟨B, 0, none⟩), .pointer (some ⟨p.1, 0, none⟩), .int .i64 who, .agg (insC ⟨13, op, d, a, b, n, to⟩).toArray] w fun e w' => e = .returned (.tuple #[leakV ⟨5, who, 4, 0⟩, .bool true]) ∧
      ∃ R', MR w' R' B ids { m with ths := m.ths.set i { t with over := true }, events := m.events ++ [⟨4, who, 0⟩] } ∧ Mv R R' w w' := by
  have hpR := (h.inT p (List.mem_of_getElem? hp))
  obtain ⟨g0, ⟨ca, cc, hb, _⟩, _⟩ := h.th hp ht
  have b2 := th2 hb
  have f2 := hb.free 2
  have hlt := hb.lt
  have HB := hid hb
  have HR := hid h
  obtain ⟨d4, hd4, hd5⟩ := unLK
  have b19 := th19 hb g0
  have f19 := hb.free 19
  clear hb h
  dsimp only [insC] at *
  go_enter Try.func78, Try.ntmps78
  go_wp2_with (first | still_step | (with_reducible first | refine wpStill_nil ?_ | refine Flow.Both.mk ?_ ?_ | exact True.intro) | (with_reducible refine Flow.same_mk rfl rfl rfl ?_; go_simp; done) | (with_reducible exact Flow.same_un rfl rfl rfl) | (refine Flow.region_still mixed ?hB ?_; (case hB => decide +kernel)))
  go_at_call 95
  obtain ⟨wq, hwq⟩ : ∃ wq, wq = w := ⟨_, rfl⟩
  have hmq := fun (w1 : World) (hf : Fr (fun k => k = p.1) w w1) (hb : Blk w1 p.1 (thC p.2 ca cc { t with over := true }).toArray 116) => blkTh HR.out hp ht (t1 := { t with over := true }) hf HB.out hb rfl rfl (by simp [Th.step, g0])
  refine (did_is B R ids { m with ths := m.ths.set i { t with over := true } } 4 who 0 _ ⟨Q, hmq _ (by (with_reducible repeat' (first | exact Fr.refl _ _ | apply Fr.alloc | apply Fr.drew | apply Fr.drewN | refine Fr.setCell ?_ ?_ _)) <;> exact fun _ => rfl) (by (repeat (first | with_reducible apply Blk.drew | with_reducible apply Blk.alloc)); exact setOver HB.out g0 true)⟩ hev).mono ?_
  rintro e w1 ⟨rfl, R1, hm1, hv1⟩
  dsimp only [leakV]
  have HM1 := hid hm1
  have HV1 := hid (show (∀ k, R k → R1 k) ∧ (∀ k, R1 k → R k ∨ w.heap.size ≤ k) ∧ (∀ k, R1 k → ¬ (k = w.heap.size + 1)) ∧ Fr R w w1 from ⟨hv1.1, fun k hk => by
      rcases hv1.2.1 k hk with h | h
      · exact .inl h
      · exact .inr (by (try simp at h); omega), fun k hk e => by
      rcases hv1.2.1 k hk with h | h
      · have := HR.out.lt k h; omega
      · (try simp at h); omega, (Fr.mono (S := fun k => k = p.1) (S2 := R) (by (with_reducible repeat' (first | exact Fr.refl _ _ | apply Fr.alloc | apply Fr.drew | apply Fr.drewN | refine Fr.setCell ?_ ?_ _)) <;> exact fun _ => rfl) (fun k _ e => by rw [e]; exact hpR.1)).trans hv1.2.2 (fun _ _ h => h)⟩)
  have hl1 : Blk w1 (w.heap.size + 1) #[.int .i64 0, .int .i64 0, .int .i64 0, .int .i64 0] 37 := by
    refine Blk.fr (S := R) ?_ hv1.2.2 (fun hk => by have := HR.out.lt _ hk; omega)
    (repeat' (first | with_reducible apply Blk.drew | (with_reducible refine Blk.new' ?_) | (with_reducible refine Blk.set_ne ?_ ?_ _) | with_reducible apply Blk.alloc)) <;> first | rfl | (simp; done) | (simp; omega)
  have HL1 := hid hl1
  clear hm1 hv1 hl1 hmq hwq
  go_wp2_with (first | ((with_reducible apply wpList_storeA (b := w.heap.size + 1) (C := #[.int .i64 0, .int .i64 0, .int .i64 0, .int .i64 0]) (T := 37)); (case zsx => rfl); (case zsy => rfl); (case zsn => rfl); (case zsi => exact szLK); (case zs1 => rfl); (case zsb => ((repeat' (first | with_reducible exact HL1.out | with_reducible exact HL2.out | with_reducible exact HL3.out | with_reducible exact HL4.out | with_reducible apply Blk.drew | (with_reducible refine Blk.set_ne ?_ ?_ _))); all_goals (first | omega | (simp; omega) | (simp; done)))); intro w9 hb9 hf9 hs9; have HB9 := hid hb9; have HF9 := hid hf9; have HSZ9 := hid hs9; clear hb9 hf9 hs9) | still_step | (with_reducible first | refine wpStill_nil ?_ | refine Flow.Both.mk ?_ ?_ | exact True.intro) | (with_reducible refine Flow.same_mk rfl rfl rfl ?_; go_simp; done) | (with_reducible exact Flow.same_un rfl rfl rfl) | (refine Flow.region_still mixed ?hB ?_; (case hB => decide +kernel)))
  have hres := fun (C : Array Value) (hC : C.size = 4) (tmps : Array Value) (w : World) (b : Nat) (ha : tmps.getD 8 undef = .pointer (some ⟨b, 0, none⟩)) (hb : Blk w b C 37) => results_ct (P := Try.prog) Try.results78 ha hb hd4 hd5 (by rw [hC]; exact szLK)
  refine bodyPost_ret (hres _ rfl _ _ _ rfl HB9.out) rfl ?_
  have hF9 : Fr (fun k => k = w.heap.size + 1) w1 w9 := by first | exact HF9.out | exact (Fr.refl _ _).drew.trans HF9.out (fun _ _ h => h)
  exact ⟨rfl, R1, MR.fr HM1.out hF9 HV1.out.2.2.1, HV1.out.1, HV1.out.2.1, HV1.out.2.2.2.trans hF9 (fun k hk e => by omega)⟩

theorem out_is (B i : Nat) (R : Nat → Prop) (ids : List (Nat × Nat)) (Q : Nat → Nat → Prop) (m : M) (p : Nat × Nat) (t : Th) (op d a b n to who : Int) (w : World) (h : MRep w B R ids Q m) (hp : ids[i]? = some p) (ht : m.ths[i]? = some t) (hev : evRoom m) (ha : 0 ≤ a ∧ a < 16) :
    Calls Try.prog 76 #[.pointer (some ⟨B, 0, none⟩), .pointer (some ⟨p.1, 0, none⟩), .int .i64 who, .agg (insC ⟨11, op, d, a, b, n, to⟩).toArray] w fun e w' => e = .returned (.tuple #[leakV ⟨5, who, 0, t.reg a⟩, .bool true]) ∧
      ∃ R', MR w' R' B ids { m with ths := m.ths.set i t.step, events := m.events ++ [⟨0, who, t.reg a⟩] } ∧ Mv R R' w w' := by
  have hpR := (h.inT p (List.mem_of_getElem? hp))
  obtain ⟨g0, ⟨ca, cc, hb, _⟩, _⟩ := h.th hp ht
  have b2 := th2 hb
  have f2 := hb.free 2
  have hlt := hb.lt
  have HB := hid hb
  have HR := hid h
  obtain ⟨d4, hd4, hd5⟩ := unLK
  obtain ⟨y, rfl⟩ : ∃ z : Nat, a = z := ⟨Int.toNat a, by omega⟩
  have hz_y : y < 16 := by omega
  have b_y := thr hb g0 hz_y
  have f_y := hb.free (3 + y)
  obtain ⟨v_y, hv_y⟩ : ∃ v, v = t.regs.getD y 0 := ⟨_, rfl⟩
  rw [← hv_y] at b_y
  have HV_y := hid (show t.reg ((y : Nat) : Int) = v_y from hv_y.symm)
  clear hv_y
  (try simp only [HV_y.out])
  have n1_y : ¬ (3 + y = 2) := by omega
  have n2_y : ¬ (2 = 3 + y) := by omega
  clear hb h
  dsimp only [insC] at *
  go_enter Try.func76, Try.ntmps76
  go_wp2_with (first | still_step | (with_reducible first | refine wpStill_nil ?_ | refine Flow.Both.mk ?_ ?_ | exact True.intro) | (with_reducible refine Flow.same_mk rfl rfl rfl ?_; go_simp; done) | (with_reducible exact Flow.same_un rfl rfl rfl) | (with_reducible refine Flow.region_flow (id := 2) [0, 0, 0, 0, 8, 4, 36, 124, 252, 511, 1023, 1023, 4095, 8191] 4608 504 [(0, none), (1, none), (2, none), (3, none), (4, none), (5, none), (6, none), (7, none), (8, none), (9, some []), (10, none), (11, none), (12, some []), (13, none)] mixed ?hB ?_; (case hB => decide +kernel); simp only [Flow.textOf, Flow.q1, Flow.q2, Flow.q3, Flow.q4, Flow.q5, Flow.q6, Flow.q7, Flow.q8, Flow.q9, Flow.wpFl, Flow.SameAll]) | (refine Flow.region_still mixed ?hB ?_; (case hB => decide +kernel)))
  go_at_call 95
  obtain ⟨wq, hwq⟩ : ∃ wq, wq = w := ⟨_, rfl⟩
  have hmq := fun (w1 : World) (hf : Fr (fun k => k = p.1) w w1) (hb : Blk w1 p.1 (thC p.2 ca cc t.step).toArray 116) => blkTh HR.out hp ht (t1 := t.step) hf HB.out hb rfl rfl (by simp [Th.step, g0])
  refine (did_is B R ids { m with ths := m.ths.set i t.step } 0 who v_y _ ⟨Q, hmq _ (by (with_reducible repeat' (first | exact Fr.refl _ _ | apply Fr.alloc | apply Fr.drew | apply Fr.drewN | refine Fr.setCell ?_ ?_ _)) <;> exact fun _ => rfl) (by (repeat (first | with_reducible apply Blk.drew | with_reducible apply Blk.alloc)); exact setPlace HB.out _)⟩ hev).mono ?_
  rintro e w1 ⟨rfl, R1, hm1, hv1⟩
  dsimp only [leakV]
  have HM1 := hid hm1
  have HV1 := hid (show (∀ k, R k → R1 k) ∧ (∀ k, R1 k → R k ∨ w.heap.size ≤ k) ∧ (∀ k, R1 k → ¬ (k = w.heap.size + 1)) ∧ Fr R w w1 from ⟨hv1.1, fun k hk => by
      rcases hv1.2.1 k hk with h | h
      · exact .inl h
      · exact .inr (by (try simp at h); omega), fun k hk e => by
      rcases hv1.2.1 k hk with h | h
      · have := HR.out.lt k h; omega
      · (try simp at h); omega, (Fr.mono (S := fun k => k = p.1) (S2 := R) (by (with_reducible repeat' (first | exact Fr.refl _ _ | apply Fr.alloc | apply Fr.drew | apply Fr.drewN | refine Fr.setCell ?_ ?_ _)) <;> exact fun _ => rfl) (fun k _ e => by rw [e]; exact hpR.1)).trans hv1.2.2 (fun _ _ h => h)⟩)
  have hl1 : Blk w1 (w.heap.size + 1) #[.int .i64 0, .int .i64 0, .int .i64 0, .int .i64 0] 37 := by
    refine Blk.fr (S := R) ?_ hv1.2.2 (fun hk => by have := HR.out.lt _ hk; omega)
    (repeat' (first | with_reducible apply Blk.drew | (with_reducible refine Blk.new' ?_) | (with_reducible refine Blk.set_ne ?_ ?_ _) | with_reducible apply Blk.alloc)) <;> first | rfl | (simp; done) | (simp; omega)
  have HL1 := hid hl1
  clear hm1 hv1 hl1 hmq hwq
  go_wp2_with (first | ((with_reducible apply wpList_storeA (b := w.heap.size + 1) (C := #[.int .i64 0, .int .i64 0, .int .i64 0, .int .i64 0]) (T := 37)); (case zsx => rfl); (case zsy => rfl); (case zsn => rfl); (case zsi => exact szLK); (case zs1 => rfl); (case zsb => ((repeat' (first | with_reducible exact HL1.out | with_reducible exact HL2.out | with_reducible exact HL3.out | with_reducible exact HL4.out | with_reducible apply Blk.drew | (with_reducible refine Blk.set_ne ?_ ?_ _))); all_goals (first | omega | (simp; omega) | (simp; done)))); intro w9 hb9 hf9 hs9; have HB9 := hid hb9; have HF9 := hid hf9; have HSZ9 := hid hs9; clear hb9 hf9 hs9) | still_step | (with_reducible first | refine wpStill_nil ?_ | refine Flow.Both.mk ?_ ?_ | exact True.intro) | (with_reducible refine Flow.same_mk rfl rfl rfl ?_; go_simp; done) | (with_reducible exact Flow.same_un rfl rfl rfl) | (with_reducible refine Flow.region_flow (id := 2) [0, 0, 0, 0, 8, 4, 36, 124, 252, 511, 1023, 1023, 4095, 8191] 4608 504 [(0, none), (1, none), (2, none), (3, none), (4, none), (5, none), (6, none), (7, none), (8, none), (9, some []), (10, none), (11, none), (12, some []), (13, none)] mixed ?hB ?_; (case hB => decide +kernel); simp only [Flow.textOf, Flow.q1, Flow.q2, Flow.q3, Flow.q4, Flow.q5, Flow.q6, Flow.q7, Flow.q8, Flow.q9, Flow.wpFl, Flow.SameAll]) | (refine Flow.region_still mixed ?hB ?_; (case hB => decide +kernel)))
  have hres := fun (C : Array Value) (hC : C.size = 4) (tmps : Array Value) (w : World) (b : Nat) (ha : tmps.getD 8 undef = .pointer (some ⟨b, 0, none⟩)) (hb : Blk w b C 37) => results_ct (P := Try.prog) Try.results76 ha hb hd4 hd5 (by rw [hC]; exact szLK)
  refine bodyPost_ret (hres _ rfl _ _ _ rfl HB9.out) rfl ?_
  have hF9 : Fr (fun k => k = w.heap.size + 1) w1 w9 := by first | exact HF9.out | exact (Fr.refl _ _).drew.trans HF9.out (fun _ _ h => h)
  exact ⟨rfl, R1, MR.fr HM1.out hF9 HV1.out.2.2.1, HV1.out.1, HV1.out.2.1, HV1.out.2.2.2.trans hF9 (fun k hk e => by omega)⟩

theorem take_yes (B i : Nat) (R : Nat → Prop) (ids : List (Nat × Nat)) (Q : Nat → Nat → Prop) (m : M) (p : Nat × Nat) (t : Th) (op d a b n to who : Int) (w : World) (h : MRep w B R ids Q m) (hp : ids[i]? = some p) (ht : m.ths[i]? = some t) (hev : evRoom m)
    (hn : 0 ≤ n ∧ n < m.own.length) (hw0 : t.wait.length = 0) (ho : m.own.getD n.toNat (-1) = -1) :
    Calls Try.prog 74 #[.pointer (some ⟨B, 0, none⟩), .pointer (some ⟨p.1, 0, none⟩), .int .i64 who, .agg (insC ⟨9, op, d, a, b, n, to⟩).toArray] w fun e w' => e = .returned (.tuple #[leakV ⟨5, who, 1, n⟩, .bool true]) ∧
      ∃ R', MR w' R' B ids { m with ths := m.ths.set i t.step, own := m.own.set n.toNat who, events := m.events ++ [⟨1, who, n⟩] } ∧ Mv R R' w w' := by
  have hpR := (h.inT p (List.mem_of_getElem? hp))
  obtain ⟨g0, ⟨ca, cc, hb, _⟩, _⟩ := h.th hp ht
  have b2 := th2 hb
  have f2 := hb.free 2
  have hlt := hb.lt
  have HB := hid hb
  have HR := hid h
  obtain ⟨d4, hd4, hd5⟩ := unLK
  have a0 := th0 hb
  obtain ⟨oa, oc, c2, hoa, hown⟩ := ownRow h
  obtain ⟨k, rfl⟩ : ∃ k : Nat, n = k := ⟨n.toNat, by omega⟩
  have hk : k < m.own.length := by omega
  obtain ⟨r, off, rfl, q0, qf, hrR, hrty, hset⟩ := hown k hk
  have hrl := World.block_lt_of_cell? _ _ q0
  dsimp only at hrl
  obtain ⟨ov, hov⟩ : ∃ ov, ov = m.own.getD k (-1) := ⟨_, rfl⟩
  rw [← hov] at q0
  have HOV := hid hov
  have HSET := hid hset
  have hnr : p.1 ≠ r := fun e => by have := ty_blk hb; rw [e, hrty] at this; exact absurd (Option.some.inj this) (by decide)
  have hnr2 : ¬ (p.1 = r) := hnr
  have hnr3 : ¬ (r = p.1) := fun e => hnr e.symm
  have hBl := h.lt B h.inB
  have hnB : ¬ (B = r) := fun e => by obtain ⟨ta, tc, ma, mc, oa', oc', ea, ec, hb', _⟩ := h.head; have := ty_blk hb'; rw [e, hrty] at this; exact absurd (Option.some.inj this) (by decide)
  have hnB2 : ¬ (r = B) := fun e => hnB e.symm
  generalize m.own.length = OL at *
  clear hov hset hown hoa
  have ho' : ov = -1 := HOV.out.trans ho
  rw [ho'] at q0
  clear hb h
  dsimp only [insC] at *
  go_enter Try.func74, Try.ntmps74
  go_wp2_with (first | still_step | (with_reducible first | refine wpStill_nil ?_ | refine Flow.Both.mk ?_ ?_ | exact True.intro) | (with_reducible refine Flow.same_mk rfl rfl rfl ?_; go_simp; done) | (with_reducible exact Flow.same_un rfl rfl rfl) | (with_reducible refine Flow.region_flow (id := 1) [0, 1, 3, 7, 15, 31, 63, 127, 255, 511, 1023, 127, 2175, 8191, 16383, 32767, 65535] 16 65326 [(0, none), (1, none), (2, none), (3, none), (4, some []), (5, none), (6, none), (7, none), (8, none), (9, none), (10, none), (11, none), (12, none), (13, none), (14, none), (15, none), (16, none)] mixed ?hB ?_; (case hB => decide +kernel); simp only [Flow.textOf, Flow.q1, Flow.q2, Flow.q3, Flow.q4, Flow.q5, Flow.q6, Flow.q7, Flow.q8, Flow.q9, Flow.wpFl, Flow.SameAll]) | (with_reducible refine Flow.region_flow (id := 3) [0, 1, 3, 7, 0, 16, 0, 127, 255] 256 190 [(0, none), (1, none), (2, none), (3, none), (4, none), (5, none), (6, none), (7, none), (8, some [])] mixed ?hB ?_; (case hB => decide +kernel); simp only [Flow.textOf, Flow.q1, Flow.q2, Flow.q3, Flow.q4, Flow.q5, Flow.q6, Flow.q7, Flow.q8, Flow.q9, Flow.wpFl, Flow.SameAll]) | (refine Flow.region_still mixed ?hB ?_; (case hB => decide +kernel)))
  go_at_call 94
  refine (len_yes p.2 (Q i) m.room t.wait _ (((HR.out.th hp ht).2.2).fr (S := fun _ => False) (by (with_reducible repeat' (first | exact Fr.refl _ _ | apply Fr.alloc | apply Fr.drew | apply Fr.drewN | refine Fr.setCell ?_ ?_ _))) (fun h => h) (fun _ _ h => h))).mono ?_
  rintro e w' ⟨rfl, rfl⟩
  rw [hw0]
  go_wp2_with (first | still_step | (with_reducible first | refine wpStill_nil ?_ | refine Flow.Both.mk ?_ ?_ | exact True.intro) | (with_reducible refine Flow.same_mk rfl rfl rfl ?_; go_simp; done) | (with_reducible exact Flow.same_un rfl rfl rfl) | (with_reducible refine Flow.region_flow (id := 1) [0, 1, 3, 7, 15, 31, 63, 127, 255, 511, 1023, 127, 2175, 8191, 16383, 32767, 65535] 16 65326 [(0, none), (1, none), (2, none), (3, none), (4, some []), (5, none), (6, none), (7, none), (8, none), (9, none), (10, none), (11, none), (12, none), (13, none), (14, none), (15, none), (16, none)] mixed ?hB ?_; (case hB => decide +kernel); simp only [Flow.textOf, Flow.q1, Flow.q2, Flow.q3, Flow.q4, Flow.q5, Flow.q6, Flow.q7, Flow.q8, Flow.q9, Flow.wpFl, Flow.SameAll]) | (with_reducible refine Flow.region_flow (id := 3) [0, 1, 3, 7, 0, 16, 0, 127, 255] 256 190 [(0, none), (1, none), (2, none), (3, none), (4, none), (5, none), (6, none), (7, none), (8, some [])] mixed ?hB ?_; (case hB => decide +kernel); simp only [Flow.textOf, Flow.q1, Flow.q2, Flow.q3, Flow.q4, Flow.q5, Flow.q6, Flow.q7, Flow.q8, Flow.q9, Flow.wpFl, Flow.SameAll]) | (refine Flow.region_still mixed ?hB ?_; (case hB => decide +kernel)))
  go_at_call 95
  have hso := HSET.out (who)
  have hbo : Blk (w.setCell ⟨r, off + k, none⟩ (.int .i64 (who))) p.1 (thC p.2 ca cc t).toArray 116 := HB.out.set_ne hnr _
  have hmo := blkTh hso.1 hp ht (t1 := t.step) (w1 := (w.setCell ⟨r, off + k, none⟩ (.int .i64 (who))).setCell ⟨p.1, 2, none⟩ (.int .i64 (wrap64 (t.place + 1)))) (by (with_reducible repeat' (first | exact Fr.refl _ _ | apply Fr.alloc | apply Fr.drew | apply Fr.drewN | refine Fr.setCell ?_ ?_ _)); exact fun _ => rfl) hbo (setPlace hbo _) rfl rfl (by simp [Th.step, g0])
  have hFo : Fr R w ((w.setCell ⟨r, off + k, none⟩ (.int .i64 (who))).setCell ⟨p.1, 2, none⟩ (.int .i64 (wrap64 (t.place + 1)))) := by
    (with_reducible repeat' (first | exact Fr.refl _ _ | apply Fr.alloc | apply Fr.drew | apply Fr.drewN | refine Fr.setCell ?_ ?_ _))
    · exact fun _ => hrR
    · exact fun _ => hpR.1
  refine (did_is B R ids _ 1 who (k : Int) _ (MR.fr ⟨Q, hmo⟩ (S := fun _ => False) (by (with_reducible repeat' (first | exact Fr.refl _ _ | apply Fr.alloc | apply Fr.drew | apply Fr.drewN | refine Fr.setCell ?_ ?_ _))) (fun _ _ h => h)) hev).mono ?_
  rintro e w1 ⟨rfl, R1, hm1, hv1⟩
  dsimp only [leakV]
  have hva := (Mv.of_fr (R := R) (show Fr (fun _ => False) ((w.setCell ⟨r, off + k, none⟩ (.int .i64 (who))).setCell ⟨p.1, 2, none⟩ (.int .i64 (wrap64 (t.place + 1)))) _ by (with_reducible repeat' (first | exact Fr.refl _ _ | apply Fr.alloc | apply Fr.drew | apply Fr.drewN | refine Fr.setCell ?_ ?_ _)))).trans hv1
  have hva2 := (show Mv R R w _ from ⟨fun _ h => h, fun _ h => .inl h, hFo⟩).trans hva
  have HM1 := hid hm1
  have HV1 := hid (show (∀ k, R k → R1 k) ∧ (∀ k, R1 k → R k ∨ w.heap.size ≤ k) ∧ (∀ k, R1 k → ¬ (k = w.heap.size + 1)) ∧ Fr R w w1 from ⟨hva2.1, hva2.2.1, fun k hk e => by
      rcases hv1.2.1 k hk with h | h
      · have := HR.out.lt k h; omega
      · (try simp at h); omega, hva2.2.2⟩)
  have hl1 : Blk w1 (w.heap.size + 1) #[.int .i64 0, .int .i64 0, .int .i64 0, .int .i64 0] 37 := by
    refine Blk.fr (S := R) ?_ hv1.2.2 (fun hk => by have := HR.out.lt _ hk; omega)
    (repeat' (first | with_reducible apply Blk.drew | (with_reducible refine Blk.new' ?_) | (with_reducible refine Blk.set_ne ?_ ?_ _) | with_reducible apply Blk.alloc)) <;> first | rfl | (simp; done) | (simp; omega)
  have HL1 := hid hl1
  clear hm1 hv1 hl1 hva hva2 hFo hmo hbo hso
  go_wp2_with (first | ((with_reducible apply wpList_storeA (b := w.heap.size + 1) (C := #[.int .i64 0, .int .i64 0, .int .i64 0, .int .i64 0]) (T := 37)); (case zsx => rfl); (case zsy => rfl); (case zsn => rfl); (case zsi => exact szLK); (case zs1 => rfl); (case zsb => ((repeat' (first | with_reducible exact HL1.out | with_reducible exact HL2.out | with_reducible exact HL3.out | with_reducible exact HL4.out | with_reducible apply Blk.drew | (with_reducible refine Blk.set_ne ?_ ?_ _))); all_goals (first | omega | (simp; omega) | (simp; done)))); intro w9 hb9 hf9 hs9; have HB9 := hid hb9; have HF9 := hid hf9; have HSZ9 := hid hs9; clear hb9 hf9 hs9) | still_step | (with_reducible first | refine wpStill_nil ?_ | refine Flow.Both.mk ?_ ?_ | exact True.intro) | (with_reducible refine Flow.same_mk rfl rfl rfl ?_; go_simp; done) | (with_reducible exact Flow.same_un rfl rfl rfl) | (with_reducible refine Flow.region_flow (id := 1) [0, 1, 3, 7, 15, 31, 63, 127, 255, 511, 1023, 127, 2175, 8191, 16383, 32767, 65535] 16 65326 [(0, none), (1, none), (2, none), (3, none), (4, some []), (5, none), (6, none), (7, none), (8, none), (9, none), (10, none), (11, none), (12, none), (13, none), (14, none), (15, none), (16, none)] mixed ?hB ?_; (case hB => decide +kernel); simp only [Flow.textOf, Flow.q1, Flow.q2, Flow.q3, Flow.q4, Flow.q5, Flow.q6, Flow.q7, Flow.q8, Flow.q9, Flow.wpFl, Flow.SameAll]) | (with_reducible refine Flow.region_flow (id := 3) [0, 1, 3, 7, 0, 16, 0, 127, 255] 256 190 [(0, none), (1, none), (2, none), (3, none), (4, none), (5, none), (6, none), (7, none), (8, some [])] mixed ?hB ?_; (case hB => decide +kernel); simp only [Flow.textOf, Flow.q1, Flow.q2, Flow.q3, Flow.q4, Flow.q5, Flow.q6, Flow.q7, Flow.q8, Flow.q9, Flow.wpFl, Flow.SameAll]) | (refine Flow.region_still mixed ?hB ?_; (case hB => decide +kernel)))
  have hres := fun (C : Array Value) (hC : C.size = 4) (tmps : Array Value) (w : World) (b : Nat) (ha : tmps.getD 8 undef = .pointer (some ⟨b, 0, none⟩)) (hb : Blk w b C 37) => results_ct (P := Try.prog) Try.results74 ha hb hd4 hd5 (by rw [hC]; exact szLK)
  refine bodyPost_ret (hres _ rfl _ _ _ rfl HB9.out) rfl ?_
  have hF9 : Fr (fun k => k = w.heap.size + 1) w1 w9 := by first | exact HF9.out | exact (Fr.refl _ _).drew.trans HF9.out (fun _ _ h => h)
  exact ⟨rfl, R1, MR.fr HM1.out hF9 HV1.out.2.2.1, HV1.out.1, HV1.out.2.1, HV1.out.2.2.2.trans hF9 (fun k hk e => by omega)⟩

theorem give_yes (B i : Nat) (R : Nat → Prop) (ids : List (Nat × Nat)) (Q : Nat → Nat → Prop) (m : M) (p : Nat × Nat) (t : Th) (op d a b n to who : Int) (w : World) (h : MRep w B R ids Q m) (hp : ids[i]? = some p) (ht : m.ths[i]? = some t) (hev : evRoom m)
    (hn : 0 ≤ n ∧ n < m.own.length) (hw0 : t.wait.length = 0) :
    Calls Try.prog 75 #[.pointer (some ⟨B, 0, none⟩), .pointer (some ⟨p.1, 0, none⟩), .int .i64 who, .agg (insC ⟨10, op, d, a, b, n, to⟩).toArray] w fun e w' => e = .returned (.tuple #[leakV ⟨5, who, 2, n⟩, .bool true]) ∧
      ∃ R', MR w' R' B ids { m with ths := m.ths.set i t.step, own := m.own.set n.toNat (-1), events := m.events ++ [⟨2, who, n⟩] } ∧ Mv R R' w w' := by
  have hpR := (h.inT p (List.mem_of_getElem? hp))
  obtain ⟨g0, ⟨ca, cc, hb, _⟩, _⟩ := h.th hp ht
  have b2 := th2 hb
  have f2 := hb.free 2
  have hlt := hb.lt
  have HB := hid hb
  have HR := hid h
  obtain ⟨d4, hd4, hd5⟩ := unLK
  have a0 := th0 hb
  obtain ⟨oa, oc, c2, hoa, hown⟩ := ownRow h
  obtain ⟨k, rfl⟩ : ∃ k : Nat, n = k := ⟨n.toNat, by omega⟩
  have hk : k < m.own.length := by omega
  obtain ⟨r, off, rfl, q0, qf, hrR, hrty, hset⟩ := hown k hk
  have hrl := World.block_lt_of_cell? _ _ q0
  dsimp only at hrl
  obtain ⟨ov, hov⟩ : ∃ ov, ov = m.own.getD k (-1) := ⟨_, rfl⟩
  rw [← hov] at q0
  have HOV := hid hov
  have HSET := hid hset
  have hnr : p.1 ≠ r := fun e => by have := ty_blk hb; rw [e, hrty] at this; exact absurd (Option.some.inj this) (by decide)
  have hnr2 : ¬ (p.1 = r) := hnr
  have hnr3 : ¬ (r = p.1) := fun e => hnr e.symm
  have hBl := h.lt B h.inB
  have hnB : ¬ (B = r) := fun e => by obtain ⟨ta, tc, ma, mc, oa', oc', ea, ec, hb', _⟩ := h.head; have := ty_blk hb'; rw [e, hrty] at this; exact absurd (Option.some.inj this) (by decide)
  have hnB2 : ¬ (r = B) := fun e => hnB e.symm
  generalize m.own.length = OL at *
  clear hov hset hown hoa
  clear hb h
  dsimp only [insC] at *
  go_enter Try.func75, Try.ntmps75
  go_wp2_with (first | still_step | (with_reducible first | refine wpStill_nil ?_ | refine Flow.Both.mk ?_ ?_ | exact True.intro) | (with_reducible refine Flow.same_mk rfl rfl rfl ?_; go_simp; done) | (with_reducible exact Flow.same_un rfl rfl rfl) | (with_reducible refine Flow.region_flow (id := 3) [0, 1, 3, 7, 0, 16, 63, 127] 128 126 [(0, none), (1, none), (2, none), (3, none), (4, none), (5, none), (6, none), (7, some [])] mixed ?hB ?_; (case hB => decide +kernel); simp only [Flow.textOf, Flow.q1, Flow.q2, Flow.q3, Flow.q4, Flow.q5, Flow.q6, Flow.q7, Flow.q8, Flow.q9, Flow.wpFl, Flow.SameAll]) | (refine Flow.region_still mixed ?hB ?_; (case hB => decide +kernel)))
  go_at_call 94
  refine (len_yes p.2 (Q i) m.room t.wait _ (((HR.out.th hp ht).2.2).fr (S := fun _ => False) (by (with_reducible repeat' (first | exact Fr.refl _ _ | apply Fr.alloc | apply Fr.drew | apply Fr.drewN | refine Fr.setCell ?_ ?_ _))) (fun h => h) (fun _ _ h => h))).mono ?_
  rintro e w' ⟨rfl, rfl⟩
  rw [hw0]
  go_wp2_with (first | still_step | (with_reducible first | refine wpStill_nil ?_ | refine Flow.Both.mk ?_ ?_ | exact True.intro) | (with_reducible refine Flow.same_mk rfl rfl rfl ?_; go_simp; done) | (with_reducible exact Flow.same_un rfl rfl rfl) | (with_reducible refine Flow.region_flow (id := 3) [0, 1, 3, 7, 0, 16, 63, 127] 128 126 [(0, none), (1, none), (2, none), (3, none), (4, none), (5, none), (6, none), (7, some [])] mixed ?hB ?_; (case hB => decide +kernel); simp only [Flow.textOf, Flow.q1, Flow.q2, Flow.q3, Flow.q4, Flow.q5, Flow.q6, Flow.q7, Flow.q8, Flow.q9, Flow.wpFl, Flow.SameAll]) | (refine Flow.region_still mixed ?hB ?_; (case hB => decide +kernel)))
  go_at_call 95
  have hso := HSET.out (-1)
  have hbo : Blk (w.setCell ⟨r, off + k, none⟩ (.int .i64 (-1))) p.1 (thC p.2 ca cc t).toArray 116 := HB.out.set_ne hnr _
  have hmo := blkTh hso.1 hp ht (t1 := t.step) (w1 := (w.setCell ⟨r, off + k, none⟩ (.int .i64 (-1))).setCell ⟨p.1, 2, none⟩ (.int .i64 (wrap64 (t.place + 1)))) (by (with_reducible repeat' (first | exact Fr.refl _ _ | apply Fr.alloc | apply Fr.drew | apply Fr.drewN | refine Fr.setCell ?_ ?_ _)); exact fun _ => rfl) hbo (setPlace hbo _) rfl rfl (by simp [Th.step, g0])
  have hFo : Fr R w ((w.setCell ⟨r, off + k, none⟩ (.int .i64 (-1))).setCell ⟨p.1, 2, none⟩ (.int .i64 (wrap64 (t.place + 1)))) := by
    (with_reducible repeat' (first | exact Fr.refl _ _ | apply Fr.alloc | apply Fr.drew | apply Fr.drewN | refine Fr.setCell ?_ ?_ _))
    · exact fun _ => hrR
    · exact fun _ => hpR.1
  refine (did_is B R ids _ 2 who (k : Int) _ (MR.fr ⟨Q, hmo⟩ (S := fun _ => False) (by (with_reducible repeat' (first | exact Fr.refl _ _ | apply Fr.alloc | apply Fr.drew | apply Fr.drewN | refine Fr.setCell ?_ ?_ _))) (fun _ _ h => h)) hev).mono ?_
  rintro e w1 ⟨rfl, R1, hm1, hv1⟩
  dsimp only [leakV]
  have hva := (Mv.of_fr (R := R) (show Fr (fun _ => False) ((w.setCell ⟨r, off + k, none⟩ (.int .i64 (-1))).setCell ⟨p.1, 2, none⟩ (.int .i64 (wrap64 (t.place + 1)))) _ by (with_reducible repeat' (first | exact Fr.refl _ _ | apply Fr.alloc | apply Fr.drew | apply Fr.drewN | refine Fr.setCell ?_ ?_ _)))).trans hv1
  have hva2 := (show Mv R R w _ from ⟨fun _ h => h, fun _ h => .inl h, hFo⟩).trans hva
  have HM1 := hid hm1
  have HV1 := hid (show (∀ k, R k → R1 k) ∧ (∀ k, R1 k → R k ∨ w.heap.size ≤ k) ∧ (∀ k, R1 k → ¬ (k = w.heap.size + 1)) ∧ Fr R w w1 from ⟨hva2.1, hva2.2.1, fun k hk e => by
      rcases hv1.2.1 k hk with h | h
      · have := HR.out.lt k h; omega
      · (try simp at h); omega, hva2.2.2⟩)
  have hl1 : Blk w1 (w.heap.size + 1) #[.int .i64 0, .int .i64 0, .int .i64 0, .int .i64 0] 37 := by
    refine Blk.fr (S := R) ?_ hv1.2.2 (fun hk => by have := HR.out.lt _ hk; omega)
    (repeat' (first | with_reducible apply Blk.drew | (with_reducible refine Blk.new' ?_) | (with_reducible refine Blk.set_ne ?_ ?_ _) | with_reducible apply Blk.alloc)) <;> first | rfl | (simp; done) | (simp; omega)
  have HL1 := hid hl1
  clear hm1 hv1 hl1 hva hva2 hFo hmo hbo hso
  go_wp2_with (first | ((with_reducible apply wpList_storeA (b := w.heap.size + 1) (C := #[.int .i64 0, .int .i64 0, .int .i64 0, .int .i64 0]) (T := 37)); (case zsx => rfl); (case zsy => rfl); (case zsn => rfl); (case zsi => exact szLK); (case zs1 => rfl); (case zsb => ((repeat' (first | with_reducible exact HL1.out | with_reducible exact HL2.out | with_reducible exact HL3.out | with_reducible exact HL4.out | with_reducible apply Blk.drew | (with_reducible refine Blk.set_ne ?_ ?_ _))); all_goals (first | omega | (simp; omega) | (simp; done)))); intro w9 hb9 hf9 hs9; have HB9 := hid hb9; have HF9 := hid hf9; have HSZ9 := hid hs9; clear hb9 hf9 hs9) | still_step | (with_reducible first | refine wpStill_nil ?_ | refine Flow.Both.mk ?_ ?_ | exact True.intro) | (with_reducible refine Flow.same_mk rfl rfl rfl ?_; go_simp; done) | (with_reducible exact Flow.same_un rfl rfl rfl) | (with_reducible refine Flow.region_flow (id := 3) [0, 1, 3, 7, 0, 16, 63, 127] 128 126 [(0, none), (1, none), (2, none), (3, none), (4, none), (5, none), (6, none), (7, some [])] mixed ?hB ?_; (case hB => decide +kernel); simp only [Flow.textOf, Flow.q1, Flow.q2, Flow.q3, Flow.q4, Flow.q5, Flow.q6, Flow.q7, Flow.q8, Flow.q9, Flow.wpFl, Flow.SameAll]) | (refine Flow.region_still mixed ?hB ?_; (case hB => decide +kernel)))
  have hres := fun (C : Array Value) (hC : C.size = 4) (tmps : Array Value) (w : World) (b : Nat) (ha : tmps.getD 8 undef = .pointer (some ⟨b, 0, none⟩)) (hb : Blk w b C 37) => results_ct (P := Try.prog) Try.results75 ha hb hd4 hd5 (by rw [hC]; exact szLK)
  refine bodyPost_ret (hres _ rfl _ _ _ rfl HB9.out) rfl ?_
  have hF9 : Fr (fun k => k = w.heap.size + 1) w1 w9 := by first | exact HF9.out | exact (Fr.refl _ _).drew.trans HF9.out (fun _ _ h => h)
  exact ⟨rfl, R1, MR.fr HM1.out hF9 HV1.out.2.2.1, HV1.out.1, HV1.out.2.1, HV1.out.2.2.2.trans hF9 (fun k hk e => by omega)⟩

theorem take_waits (B i : Nat) (R : Nat → Prop) (ids : List (Nat × Nat)) (Q : Nat → Nat → Prop) (m : M) (p : Nat × Nat) (t : Th) (op d a b n to who : Int) (w : World) (h : MRep w B R ids Q m) (hp : ids[i]? = some p) (ht : m.ths[i]? = some t) (hw0 : 0 < t.wait.length) :
    Calls Try.prog 74 #[.pointer (some ⟨B, 0, none⟩), .pointer (some ⟨p.1, 0, none⟩), .int .i64 who, .agg (insC ⟨9, op, d, a, b, n, to⟩).toArray] w fun e w' => e = .returned (.tuple #[leakV none_, .bool false]) ∧ MR w' R B ids m ∧ Fr R w w' := by
  have hpR := (h.inT p (List.mem_of_getElem? hp))
  obtain ⟨g0, ⟨ca, cc, hb, _⟩, _⟩ := h.th hp ht
  have b2 := th2 hb
  have f2 := hb.free 2
  have hlt := hb.lt
  have HB := hid hb
  have HR := hid h
  obtain ⟨d4, hd4, hd5⟩ := unLK
  have a0 := th0 hb
  clear hb h
  dsimp only [insC] at *
  go_enter Try.func74, Try.ntmps74
  go_wp2_with (first | still_step | (with_reducible first | refine wpStill_nil ?_ | refine Flow.Both.mk ?_ ?_ | exact True.intro) | (with_reducible refine Flow.same_mk rfl rfl rfl ?_; go_simp; done) | (with_reducible exact Flow.same_un rfl rfl rfl) | (with_reducible refine Flow.region_flow (id := 1) [0, 1, 3, 7, 15, 31, 63, 127, 255, 511, 1023, 127, 2175, 8191, 16383, 32767, 65535] 16 65326 [(0, none), (1, none), (2, none), (3, none), (4, some []), (5, none), (6, none), (7, none), (8, none), (9, none), (10, none), (11, none), (12, none), (13, none), (14, none), (15, none), (16, none)] mixed ?hB ?_; (case hB => decide +kernel); simp only [Flow.textOf, Flow.q1, Flow.q2, Flow.q3, Flow.q4, Flow.q5, Flow.q6, Flow.q7, Flow.q8, Flow.q9, Flow.wpFl, Flow.SameAll]) | (with_reducible refine Flow.region_flow (id := 3) [0, 1, 3, 7, 0, 16, 0, 127, 255] 256 190 [(0, none), (1, none), (2, none), (3, none), (4, none), (5, none), (6, none), (7, none), (8, some [])] mixed ?hB ?_; (case hB => decide +kernel); simp only [Flow.textOf, Flow.q1, Flow.q2, Flow.q3, Flow.q4, Flow.q5, Flow.q6, Flow.q7, Flow.q8, Flow.q9, Flow.wpFl, Flow.SameAll]) | (refine Flow.region_still mixed ?hB ?_; (case hB => decide +kernel)))
  go_at_call 94
  refine (len_yes p.2 (Q i) m.room t.wait _ (((HR.out.th hp ht).2.2).fr (S := fun _ => False) (by (with_reducible repeat' (first | exact Fr.refl _ _ | apply Fr.alloc | apply Fr.drew | apply Fr.drewN | refine Fr.setCell ?_ ?_ _))) (fun h => h) (fun _ _ h => h))).mono ?_
  rintro e w' ⟨rfl, rfl⟩
  generalize t.wait.length = WL at *
  go_wp2_with (first | ((with_reducible apply wpList_storeA (b := w.heap.size + 1) (C := #[.int .i64 0, .int .i64 0, .int .i64 0, .int .i64 0]) (T := 37)); (case zsx => rfl); (case zsy => rfl); (case zsn => rfl); (case zsi => exact szLK); (case zs1 => rfl); (case zsb => ((repeat' (first | with_reducible apply Blk.drew | with_reducible apply Blk.drewN | (with_reducible refine Blk.new' ?_) | (with_reducible refine Blk.set_ne ?_ ?_ _))); all_goals (first | (simp; done) | (simp; omega) | omega))); intro w9 hb9 hf9 hs9; have HB9 := hid hb9; have HF9 := hid hf9; have HSZ9 := hid hs9; clear hb9 hf9 hs9) | still_step | (with_reducible first | refine wpStill_nil ?_ | refine Flow.Both.mk ?_ ?_ | exact True.intro) | (with_reducible refine Flow.same_mk rfl rfl rfl ?_; go_simp; done) | (with_reducible exact Flow.same_un rfl rfl rfl) | (with_reducible refine Flow.region_flow (id := 1) [0, 1, 3, 7, 15, 31, 63, 127, 255, 511, 1023, 127, 2175, 8191, 16383, 32767, 65535] 16 65326 [(0, none), (1, none), (2, none), (3, none), (4, some []), (5, none), (6, none), (7, none), (8, none), (9, none), (10, none), (11, none), (12, none), (13, none), (14, none), (15, none), (16, none)] mixed ?hB ?_; (case hB => decide +kernel); simp only [Flow.textOf, Flow.q1, Flow.q2, Flow.q3, Flow.q4, Flow.q5, Flow.q6, Flow.q7, Flow.q8, Flow.q9, Flow.wpFl, Flow.SameAll]) | (with_reducible refine Flow.region_flow (id := 3) [0, 1, 3, 7, 0, 16, 0, 127, 255] 256 190 [(0, none), (1, none), (2, none), (3, none), (4, none), (5, none), (6, none), (7, none), (8, some [])] mixed ?hB ?_; (case hB => decide +kernel); simp only [Flow.textOf, Flow.q1, Flow.q2, Flow.q3, Flow.q4, Flow.q5, Flow.q6, Flow.q7, Flow.q8, Flow.q9, Flow.wpFl, Flow.SameAll]) | (refine Flow.region_still mixed ?hB ?_; (case hB => decide +kernel)))
  have hres := fun (C : Array Value) (hC : C.size = 4) (tmps : Array Value) (w : World) (b : Nat) (ha : tmps.getD 8 undef = .pointer (some ⟨b, 0, none⟩)) (hb : Blk w b C 37) => results_ct (P := Try.prog) Try.results74 ha hb hd4 hd5 (by rw [hC]; exact szLK)
  refine bodyPost_ret (hres _ rfl _ _ _ rfl HB9.out) rfl ?_
  have hF9 : Fr (fun k => k = w.heap.size + 1) w w9 := (show Fr (fun k => k = w.heap.size + 1) w _ by (with_reducible repeat' (first | exact Fr.refl _ _ | apply Fr.alloc | apply Fr.drew | apply Fr.drewN | refine Fr.setCell ?_ ?_ _))).trans HF9.out (fun k _ e => e)
  exact ⟨rfl, MR.fr ⟨Q, HR.out⟩ hF9 (fun k hk e => by have := HR.out.lt k hk; omega), hF9.mono (fun k hk e => by omega)⟩

theorem give_waits (B i : Nat) (R : Nat → Prop) (ids : List (Nat × Nat)) (Q : Nat → Nat → Prop) (m : M) (p : Nat × Nat) (t : Th) (op d a b n to who : Int) (w : World) (h : MRep w B R ids Q m) (hp : ids[i]? = some p) (ht : m.ths[i]? = some t) (hw0 : 0 < t.wait.length) :
    Calls Try.prog 75 #[.pointer (some ⟨B, 0, none⟩), .pointer (some ⟨p.1, 0, none⟩), .int .i64 who, .agg (insC ⟨10, op, d, a, b, n, to⟩).toArray] w fun e w' => e = .returned (.tuple #[leakV none_, .bool false]) ∧ MR w' R B ids m ∧ Fr R w w' := by
  have hpR := (h.inT p (List.mem_of_getElem? hp))
  obtain ⟨g0, ⟨ca, cc, hb, _⟩, _⟩ := h.th hp ht
  have b2 := th2 hb
  have f2 := hb.free 2
  have hlt := hb.lt
  have HB := hid hb
  have HR := hid h
  obtain ⟨d4, hd4, hd5⟩ := unLK
  have a0 := th0 hb
  clear hb h
  dsimp only [insC] at *
  go_enter Try.func75, Try.ntmps75
  go_wp2_with (first | still_step | (with_reducible first | refine wpStill_nil ?_ | refine Flow.Both.mk ?_ ?_ | exact True.intro) | (with_reducible refine Flow.same_mk rfl rfl rfl ?_; go_simp; done) | (with_reducible exact Flow.same_un rfl rfl rfl) | (with_reducible refine Flow.region_flow (id := 3) [0, 1, 3, 7, 0, 16, 63, 127] 128 126 [(0, none), (1, none), (2, none), (3, none), (4, none), (5, none), (6, none), (7, some [])] mixed ?hB ?_; (case hB => decide +kernel); simp only [Flow.textOf, Flow.q1, Flow.q2, Flow.q3, Flow.q4, Flow.q5, Flow.q6, Flow.q7, Flow.q8, Flow.q9, Flow.wpFl, Flow.SameAll]) | (refine Flow.region_still mixed ?hB ?_; (case hB => decide +kernel)))
  go_at_call 94
  refine (len_yes p.2 (Q i) m.room t.wait _ (((HR.out.th hp ht).2.2).fr (S := fun _ => False) (by (with_reducible repeat' (first | exact Fr.refl _ _ | apply Fr.alloc | apply Fr.drew | apply Fr.drewN | refine Fr.setCell ?_ ?_ _))) (fun h => h) (fun _ _ h => h))).mono ?_
  rintro e w' ⟨rfl, rfl⟩
  generalize t.wait.length = WL at *
  go_wp2_with (first | ((with_reducible apply wpList_storeA (b := w.heap.size + 1) (C := #[.int .i64 0, .int .i64 0, .int .i64 0, .int .i64 0]) (T := 37)); (case zsx => rfl); (case zsy => rfl); (case zsn => rfl); (case zsi => exact szLK); (case zs1 => rfl); (case zsb => ((repeat' (first | with_reducible apply Blk.drew | with_reducible apply Blk.drewN | (with_reducible refine Blk.new' ?_) | (with_reducible refine Blk.set_ne ?_ ?_ _))); all_goals (first | (simp; done) | (simp; omega) | omega))); intro w9 hb9 hf9 hs9; have HB9 := hid hb9; have HF9 := hid hf9; have HSZ9 := hid hs9; clear hb9 hf9 hs9) | still_step | (with_reducible first | refine wpStill_nil ?_ | refine Flow.Both.mk ?_ ?_ | exact True.intro) | (with_reducible refine Flow.same_mk rfl rfl rfl ?_; go_simp; done) | (with_reducible exact Flow.same_un rfl rfl rfl) | (with_reducible refine Flow.region_flow (id := 3) [0, 1, 3, 7, 0, 16, 63, 127] 128 126 [(0, none), (1, none), (2, none), (3, none), (4, none), (5, none), (6, none), (7, some [])] mixed ?hB ?_; (case hB => decide +kernel); simp only [Flow.textOf, Flow.q1, Flow.q2, Flow.q3, Flow.q4, Flow.q5, Flow.q6, Flow.q7, Flow.q8, Flow.q9, Flow.wpFl, Flow.SameAll]) | (refine Flow.region_still mixed ?hB ?_; (case hB => decide +kernel)))
  have hres := fun (C : Array Value) (hC : C.size = 4) (tmps : Array Value) (w : World) (b : Nat) (ha : tmps.getD 8 undef = .pointer (some ⟨b, 0, none⟩)) (hb : Blk w b C 37) => results_ct (P := Try.prog) Try.results75 ha hb hd4 hd5 (by rw [hC]; exact szLK)
  refine bodyPost_ret (hres _ rfl _ _ _ rfl HB9.out) rfl ?_
  have hF9 : Fr (fun k => k = w.heap.size + 1) w w9 := (show Fr (fun k => k = w.heap.size + 1) w _ by (with_reducible repeat' (first | exact Fr.refl _ _ | apply Fr.alloc | apply Fr.drew | apply Fr.drewN | refine Fr.setCell ?_ ?_ _))).trans HF9.out (fun k _ e => e)
  exact ⟨rfl, MR.fr ⟨Q, HR.out⟩ hF9 (fun k hk e => by have := HR.out.lt k hk; omega), hF9.mono (fun k hk e => by omega)⟩

theorem take_owned (B i : Nat) (R : Nat → Prop) (ids : List (Nat × Nat)) (Q : Nat → Nat → Prop) (m : M) (p : Nat × Nat) (t : Th) (op d a b n to who : Int) (w : World) (h : MRep w B R ids Q m) (hp : ids[i]? = some p) (ht : m.ths[i]? = some t)
    (hn : 0 ≤ n ∧ n < m.own.length) (hw0 : t.wait.length = 0) (ho : m.own.getD n.toNat (-1) ≠ -1) :
    Calls Try.prog 74 #[.pointer (some ⟨B, 0, none⟩), .pointer (some ⟨p.1, 0, none⟩), .int .i64 who, .agg (insC ⟨9, op, d, a, b, n, to⟩).toArray] w fun e w' => e = .returned (.tuple #[leakV none_, .bool false]) ∧ MR w' R B ids m ∧ Fr R w w' := by
  have hpR := (h.inT p (List.mem_of_getElem? hp))
  obtain ⟨g0, ⟨ca, cc, hb, _⟩, _⟩ := h.th hp ht
  have b2 := th2 hb
  have f2 := hb.free 2
  have hlt := hb.lt
  have HB := hid hb
  have HR := hid h
  obtain ⟨d4, hd4, hd5⟩ := unLK
  have a0 := th0 hb
  obtain ⟨oa, oc, c2, hoa, hown⟩ := ownRow h
  obtain ⟨k, rfl⟩ : ∃ k : Nat, n = k := ⟨n.toNat, by omega⟩
  have hk : k < m.own.length := by omega
  obtain ⟨r, off, rfl, q0, qf, hrR, hrty, hset⟩ := hown k hk
  have hrl := World.block_lt_of_cell? _ _ q0
  dsimp only at hrl
  obtain ⟨ov, hov⟩ : ∃ ov, ov = m.own.getD k (-1) := ⟨_, rfl⟩
  rw [← hov] at q0
  have HOV := hid hov
  have HSET := hid hset
  have hnr : p.1 ≠ r := fun e => by have := ty_blk hb; rw [e, hrty] at this; exact absurd (Option.some.inj this) (by decide)
  have hnr2 : ¬ (p.1 = r) := hnr
  have hnr3 : ¬ (r = p.1) := fun e => hnr e.symm
  have hBl := h.lt B h.inB
  have hnB : ¬ (B = r) := fun e => by obtain ⟨ta, tc, ma, mc, oa', oc', ea, ec, hb', _⟩ := h.head; have := ty_blk hb'; rw [e, hrty] at this; exact absurd (Option.some.inj this) (by decide)
  have hnB2 : ¬ (r = B) := fun e => hnB e.symm
  generalize m.own.length = OL at *
  clear hov hset hown hoa
  have ho' : ¬ (ov = -1) := fun e => ho (HOV.out.symm.trans e)
  have ho2 : (ov != -1) = true := by simpa using ho'
  clear hb h
  dsimp only [insC] at *
  go_enter Try.func74, Try.ntmps74
  go_wp2_with (first | still_step | (with_reducible first | refine wpStill_nil ?_ | refine Flow.Both.mk ?_ ?_ | exact True.intro) | (with_reducible refine Flow.same_mk rfl rfl rfl ?_; go_simp; done) | (with_reducible exact Flow.same_un rfl rfl rfl) | (with_reducible refine Flow.region_flow (id := 1) [0, 1, 3, 7, 15, 31, 63, 127, 255, 511, 1023, 127, 2175, 8191, 16383, 32767, 65535] 16 65326 [(0, none), (1, none), (2, none), (3, none), (4, some []), (5, none), (6, none), (7, none), (8, none), (9, none), (10, none), (11, none), (12, none), (13, none), (14, none), (15, none), (16, none)] mixed ?hB ?_; (case hB => decide +kernel); simp only [Flow.textOf, Flow.q1, Flow.q2, Flow.q3, Flow.q4, Flow.q5, Flow.q6, Flow.q7, Flow.q8, Flow.q9, Flow.wpFl, Flow.SameAll]) | (with_reducible refine Flow.region_flow (id := 3) [0, 1, 3, 7, 0, 16, 0, 127, 255] 256 190 [(0, none), (1, none), (2, none), (3, none), (4, none), (5, none), (6, none), (7, none), (8, some [])] mixed ?hB ?_; (case hB => decide +kernel); simp only [Flow.textOf, Flow.q1, Flow.q2, Flow.q3, Flow.q4, Flow.q5, Flow.q6, Flow.q7, Flow.q8, Flow.q9, Flow.wpFl, Flow.SameAll]) | (refine Flow.region_still mixed ?hB ?_; (case hB => decide +kernel)))
  go_at_call 94
  refine (len_yes p.2 (Q i) m.room t.wait _ (((HR.out.th hp ht).2.2).fr (S := fun _ => False) (by (with_reducible repeat' (first | exact Fr.refl _ _ | apply Fr.alloc | apply Fr.drew | apply Fr.drewN | refine Fr.setCell ?_ ?_ _))) (fun h => h) (fun _ _ h => h))).mono ?_
  rintro e w' ⟨rfl, rfl⟩
  rw [hw0]
  go_wp2_with (first | ((with_reducible apply wpList_storeA (b := w.heap.size + 1) (C := #[.int .i64 0, .int .i64 0, .int .i64 0, .int .i64 0]) (T := 37)); (case zsx => rfl); (case zsy => rfl); (case zsn => rfl); (case zsi => exact szLK); (case zs1 => rfl); (case zsb => ((repeat' (first | with_reducible apply Blk.drew | with_reducible apply Blk.drewN | (with_reducible refine Blk.new' ?_) | (with_reducible refine Blk.set_ne ?_ ?_ _))); all_goals (first | (simp; done) | (simp; omega) | omega))); intro w9 hb9 hf9 hs9; have HB9 := hid hb9; have HF9 := hid hf9; have HSZ9 := hid hs9; clear hb9 hf9 hs9) | still_step | (with_reducible first | refine wpStill_nil ?_ | refine Flow.Both.mk ?_ ?_ | exact True.intro) | (with_reducible refine Flow.same_mk rfl rfl rfl ?_; go_simp; done) | (with_reducible exact Flow.same_un rfl rfl rfl) | (with_reducible refine Flow.region_flow (id := 1) [0, 1, 3, 7, 15, 31, 63, 127, 255, 511, 1023, 127, 2175, 8191, 16383, 32767, 65535] 16 65326 [(0, none), (1, none), (2, none), (3, none), (4, some []), (5, none), (6, none), (7, none), (8, none), (9, none), (10, none), (11, none), (12, none), (13, none), (14, none), (15, none), (16, none)] mixed ?hB ?_; (case hB => decide +kernel); simp only [Flow.textOf, Flow.q1, Flow.q2, Flow.q3, Flow.q4, Flow.q5, Flow.q6, Flow.q7, Flow.q8, Flow.q9, Flow.wpFl, Flow.SameAll]) | (with_reducible refine Flow.region_flow (id := 3) [0, 1, 3, 7, 0, 16, 0, 127, 255] 256 190 [(0, none), (1, none), (2, none), (3, none), (4, none), (5, none), (6, none), (7, none), (8, some [])] mixed ?hB ?_; (case hB => decide +kernel); simp only [Flow.textOf, Flow.q1, Flow.q2, Flow.q3, Flow.q4, Flow.q5, Flow.q6, Flow.q7, Flow.q8, Flow.q9, Flow.wpFl, Flow.SameAll]) | (refine Flow.region_still mixed ?hB ?_; (case hB => decide +kernel)))
  have hres := fun (C : Array Value) (hC : C.size = 4) (tmps : Array Value) (w : World) (b : Nat) (ha : tmps.getD 8 undef = .pointer (some ⟨b, 0, none⟩)) (hb : Blk w b C 37) => results_ct (P := Try.prog) Try.results74 ha hb hd4 hd5 (by rw [hC]; exact szLK)
  refine bodyPost_ret (hres _ rfl _ _ _ rfl HB9.out) rfl ?_
  have hF9 : Fr (fun k => k = w.heap.size + 1) w w9 := (show Fr (fun k => k = w.heap.size + 1) w _ by (with_reducible repeat' (first | exact Fr.refl _ _ | apply Fr.alloc | apply Fr.drew | apply Fr.drewN | refine Fr.setCell ?_ ?_ _))).trans HF9.out (fun k _ e => e)
  exact ⟨rfl, MR.fr ⟨Q, HR.out⟩ hF9 (fun k hk e => by have := HR.out.lt k hk; omega), hF9.mono (fun k hk e => by omega)⟩
end Go.Proofs.Ytbfeopakmjcapaa.Tso
