/-
  Flush: the oldest waiting store is written.
-/
import Derived.Test.YtbfeopakmjcapaaTsoY
set_option linter.unusedVariables false
set_option linter.unusedSimpArgs false
set_option maxHeartbeats 4000000
set_option maxRecDepth 8000
namespace Go.Proofs.Ytbfeopakmjcapaa.Tso
open Go.RowKit Go.Proofs.Ytbfeopakmjcapaa.Seq
attribute [local irreducible] wpStill wpList Calls CallsIn

theorem flush_cases (m : M) (who : Int) : (m.th who = none ∧ m.flush who = (m, none_, false)) ∨ ∃ t, m.th who = some t ∧ ((t.wait = [] ∧ m.flush who = (m, none_, false)) ∨
    ∃ x y r, t.wait = (x, y) :: r ∧ m.flush who = ({ m with ths := m.ths.set who.toNat { t with wait := r }, mem := put m.mem (x, y) }, ⟨4, who, 0, x⟩, true)) := by
  unfold M.flush
  cases m.th who with
  | none => exact .inl ⟨rfl, rfl⟩
  | some t =>
    refine .inr ⟨t, rfl, ?_⟩
    cases hw : t.wait with
    | nil => exact .inl ⟨rfl, by simp only [hw]⟩
    | cons e r => exact .inr ⟨e.1, e.2, r, rfl, by simp only [hw]⟩

theorem flush_is (B : Nat) (R : Nat → Prop) (ids : List (Nat × Nat)) (m : M) (who : Int) (w : World) (h : MR w R B ids m) :
    Calls Try.prog 58 #[.pointer (some ⟨B, 0, none⟩), .int .i64 who] w fun e w' => e = .returned (.tuple #[leakV (m.flush who).2.1, .bool (m.flush who).2.2]) ∧ ∃ R', MR w' R' B ids (m.flush who).1 ∧ Mv R R' w w' := by
  have HR := hid h
  obtain ⟨d4, hd4, hd5⟩ := unLK
  have HL := hid (Blk.new w #[.int .i64 0, .int .i64 0, .int .i64 0, .int .i64 0] 37)
  have hrl := h.lt
  have HRL := hid hrl
  clear hrl
  have hres := fun (C : Array Value) (hC : C.size = 4) (tmps : Array Value) (w : World) (b : Nat) (ha : tmps.getD 4 undef = .pointer (some ⟨b, 0, none⟩)) (hb : Blk w b C 37) => results_ct (P := Try.prog) Try.results58 ha hb hd4 hd5 (by rw [hC]; exact szLK)
  have HRES := hid hres
  clear hres
  obtain ⟨Q, hQ⟩ := h
  rcases th_cases hQ who with ⟨h1, h2⟩ | ⟨k, p, t, rfl, hp, ht, h1, h2, hrep⟩
  · have e : m.flush who = (m, none_, false) := by unfold M.flush; rw [h2]
    rw [e]
    clear hQ e h2
    go_enter Try.func58, Try.ntmps58
    go_wp2_with (first | still_step | (with_reducible first | refine wpStill_nil ?_ | refine Flow.Both.mk ?_ ?_ | exact True.intro) | (with_reducible refine Flow.same_mk rfl rfl rfl ?_; go_simp; done) | (with_reducible exact Flow.same_un rfl rfl rfl) | (refine Flow.region_still mixed ?hB ?_; (case hB => decide +kernel)))
    go_at_call 62
    refine (get_is B R ids m _ _ (HR.out.fr (S := fun _ => False) (by (with_reducible repeat' (first | exact Fr.refl _ _ | apply Fr.alloc | apply Fr.drew | apply Fr.drewN | refine Fr.setCell ?_ ?_ _))) (fun _ _ h => h))).mono ?_
    rintro e w1 ⟨rfl, hf⟩
    rw [h1]
    have HF1 := hid (show Fr (fun _ => False) w w1 from (show Fr (fun _ => False) w _ by (with_reducible repeat' (first | exact Fr.refl _ _ | apply Fr.alloc | apply Fr.drew | apply Fr.drewN | refine Fr.setCell ?_ ?_ _))).trans hf (fun _ _ h => h))
    have HL1 := hid (HL.out.fr hf (fun h => h))
    clear hf HL
    go_wp2_with (first | ((with_reducible apply wpList_storeA (b := w.heap.size) (C := #[.int .i64 0, .int .i64 0, .int .i64 0, .int .i64 0]) (T := 37)); (case zsx => rfl); (case zsy => rfl); (case zsn => rfl); (case zsi => exact szLK); (case zs1 => rfl); (case zsb => ((repeat' (first | with_reducible exact HL1.out | with_reducible exact HL2.out | with_reducible exact HL3.out | with_reducible exact HL4.out | with_reducible apply Blk.drew | with_reducible apply Blk.alloc | (with_reducible refine Blk.set_ne ?_ ?_ _))); all_goals (first | omega | (simp; omega) | (simp; done)))); intro w9 hb9 hf9 hs9; have HB9 := hid hb9; have HF9 := hid hf9; have HSZ9 := hid hs9; clear hb9 hf9 hs9) | still_step | (with_reducible first | refine wpStill_nil ?_ | refine Flow.Both.mk ?_ ?_ | exact True.intro) | (with_reducible refine Flow.same_mk rfl rfl rfl ?_; go_simp; done) | (with_reducible exact Flow.same_un rfl rfl rfl) | (refine Flow.region_still mixed ?hB ?_; (case hB => decide +kernel)))
    refine bodyPost_ret (HRES.out _ rfl _ _ _ rfl HB9.out) rfl ?_
    have hF9 : Fr (fun _ => False) w w9 := fr_weaken (by (repeat' (first | with_reducible exact HF1.out | with_reducible apply Fr.alloc | with_reducible apply Fr.drew | (with_reducible refine Fr.setCell ?_ ?_ _)))) HF9.out (Nat.le_refl _)
    exact ⟨rfl, R, HR.out.fr hF9 (fun _ _ h => h), Mv.of_fr hF9⟩
  · obtain ⟨g0, ⟨ca, cc, hb, _⟩, hbuf⟩ := hrep
    have a0 := th0 hb
    have hlt := hb.lt
    have hlb := hbuf.lt
    have hpR := (hQ.inT p (List.mem_of_getElem? hp))
    have HB := hid hb
    have HQ := hid hQ
    have HBF := hid hbuf
    have hfl := flush_cases m (k : Int)
    rw [h2] at hfl
    rcases hfl with ⟨hx, _⟩ | ⟨t', ht', hcs⟩
    · cases hx
    obtain rfl := Option.some.inj ht'
    rcases hcs with ⟨hw, e⟩ | ⟨x, y, r, hw, e⟩
    · rw [e]
      clear hQ hb hbuf ht' e h2
      go_enter Try.func58, Try.ntmps58
      go_wp2_with (first | still_step | (with_reducible first | refine wpStill_nil ?_ | refine Flow.Both.mk ?_ ?_ | exact True.intro) | (with_reducible refine Flow.same_mk rfl rfl rfl ?_; go_simp; done) | (with_reducible exact Flow.same_un rfl rfl rfl) | (refine Flow.region_still mixed ?hB ?_; (case hB => decide +kernel)))
      go_at_call 62
      refine (get_is B R ids m _ _ (HR.out.fr (S := fun _ => False) (by (with_reducible repeat' (first | exact Fr.refl _ _ | apply Fr.alloc | apply Fr.drew | apply Fr.drewN | refine Fr.setCell ?_ ?_ _))) (fun _ _ h => h))).mono ?_
      rintro e w1 ⟨rfl, hf⟩
      rw [h1]
      have HF1 := hid (show Fr (fun _ => False) w w1 from (show Fr (fun _ => False) w _ by (with_reducible repeat' (first | exact Fr.refl _ _ | apply Fr.alloc | apply Fr.drew | apply Fr.drewN | refine Fr.setCell ?_ ?_ _))).trans hf (fun _ _ h => h))
      have HL1 := hid (HL.out.fr hf (fun h => h))
      have a0_ := Fr.cell HF1.out a0 (fun h => h)
      clear a0
      have a0 := a0_
      clear a0_
      clear hf HL
      go_wp2_with (first | still_step | (with_reducible first | refine wpStill_nil ?_ | refine Flow.Both.mk ?_ ?_ | exact True.intro) | (with_reducible refine Flow.same_mk rfl rfl rfl ?_; go_simp; done) | (with_reducible exact Flow.same_un rfl rfl rfl) | (refine Flow.region_still mixed ?hB ?_; (case hB => decide +kernel)))
      go_at_call 80
      have hb0 := HBF.out
      rw [hw] at hb0
      refine (pop_none p.2 (Q k) m.room _ (hb0.fr HF1.out (fun h => h) (fun _ _ h => h))).mono ?_
      clear hb0
      rintro e w2 ⟨rfl, hf2⟩
      have HF2 := hid (HF1.out.trans hf2 (fun _ _ h => h))
      have HL2 := hid (HL1.out.fr hf2 (fun h => h))
      clear hf2 HL1
      go_wp2_with (first | ((with_reducible apply wpList_storeA (b := w.heap.size) (C := #[.int .i64 0, .int .i64 0, .int .i64 0, .int .i64 0]) (T := 37)); (case zsx => rfl); (case zsy => rfl); (case zsn => rfl); (case zsi => exact szLK); (case zs1 => rfl); (case zsb => ((repeat' (first | with_reducible exact HL1.out | with_reducible exact HL2.out | with_reducible exact HL3.out | with_reducible exact HL4.out | with_reducible apply Blk.drew | with_reducible apply Blk.alloc | (with_reducible refine Blk.set_ne ?_ ?_ _))); all_goals (first | omega | (simp; omega) | (simp; done)))); intro w9 hb9 hf9 hs9; have HB9 := hid hb9; have HF9 := hid hf9; have HSZ9 := hid hs9; clear hb9 hf9 hs9) | still_step | (with_reducible first | refine wpStill_nil ?_ | refine Flow.Both.mk ?_ ?_ | exact True.intro) | (with_reducible refine Flow.same_mk rfl rfl rfl ?_; go_simp; done) | (with_reducible exact Flow.same_un rfl rfl rfl) | (refine Flow.region_still mixed ?hB ?_; (case hB => decide +kernel)))
      refine bodyPost_ret (HRES.out _ rfl _ _ _ rfl HB9.out) rfl ?_
      have hF9 : Fr (fun _ => False) w w9 := fr_weaken (by (repeat' (first | with_reducible exact HF2.out | with_reducible apply Fr.alloc | with_reducible apply Fr.drew | (with_reducible refine Fr.setCell ?_ ?_ _)))) HF9.out (Nat.le_refl _)
      exact ⟨rfl, R, HR.out.fr hF9 (fun _ _ h => h), Mv.of_fr hF9⟩
    · rw [e]
      obtain ⟨S, hS, hS2⟩ := buf_tight hbuf
      rw [hw] at hS
      have HS := hid hS
      have HS2 := hid hS2
      clear hQ hb hbuf ht' e h2 hS hS2
      obtain ⟨m2, hm2d⟩ : ∃ m2, m2 = { m with ths := m.ths.set k { t with wait := r } } := ⟨_, rfl⟩
      have hmf : { m with ths := m.ths.set k { t with wait := r }, mem := put m.mem (x, y) } = ({ m2 with mem := put m2.mem (x, y) } : M) := by rw [hm2d]
      rw [show ((k : Nat) : Int).toNat = k by simp, hmf]
      obtain ⟨mm, hmm⟩ : ∃ mm, mm = put m2.mem (x, y) := ⟨_, rfl⟩
      rw [← hmm]
      have HMM := hid hmm
      have HMD := hid hm2d
      clear hmf hm2d hmm
      go_enter Try.func58, Try.ntmps58
      go_wp2_with (first | still_step | (with_reducible first | refine wpStill_nil ?_ | refine Flow.Both.mk ?_ ?_ | exact True.intro) | (with_reducible refine Flow.same_mk rfl rfl rfl ?_; go_simp; done) | (with_reducible exact Flow.same_un rfl rfl rfl) | (refine Flow.region_still mixed ?hB ?_; (case hB => decide +kernel)))
      go_at_call 62
      refine (get_is B R ids m _ _ (HR.out.fr (S := fun _ => False) (by (with_reducible repeat' (first | exact Fr.refl _ _ | apply Fr.alloc | apply Fr.drew | apply Fr.drewN | refine Fr.setCell ?_ ?_ _))) (fun _ _ h => h))).mono ?_
      rintro e w1 ⟨rfl, hf⟩
      rw [h1]
      have HF1 := hid (show Fr (fun _ => False) w w1 from (show Fr (fun _ => False) w _ by (with_reducible repeat' (first | exact Fr.refl _ _ | apply Fr.alloc | apply Fr.drew | apply Fr.drewN | refine Fr.setCell ?_ ?_ _))).trans hf (fun _ _ h => h))
      have HL1 := hid (HL.out.fr hf (fun h => h))
      have a0_ := Fr.cell HF1.out a0 (fun h => h)
      clear a0
      have a0 := a0_
      clear a0_
      have hs01 := HF1.out.size
      have hlw1 := HL1.out.lt
      clear hf HL
      go_wp2_with (first | still_step | (with_reducible first | refine wpStill_nil ?_ | refine Flow.Both.mk ?_ ?_ | exact True.intro) | (with_reducible refine Flow.same_mk rfl rfl rfl ?_; go_simp; done) | (with_reducible exact Flow.same_un rfl rfl rfl) | (refine Flow.region_still mixed ?hB ?_; (case hB => decide +kernel)))
      go_at_call 80
      refine (pop_some p.2 S m.room x y r _ (HS.out.fr HF1.out (fun h => h) (fun _ _ h => h))).mono ?_
      rintro e w2 ⟨rfl, hb2, hf2⟩
      have hq1 := HQ.out.fr HF1.out (fun _ _ h => h)
      have hty : ∀ z, S z → Q k z ∧ tyAt w1 z = some 124 := fun z hz => ⟨(HS2.out z hz).1, by
        have h1 := (HS2.out z hz).2.1
        unfold tyAt at h1 ⊢
        rw [HF1.out.block z (HS2.out z hz).2.2 (fun h => h)]
        exact h1⟩
      obtain ⟨R2, Q2, hm2, hv2⟩ := bufTh hq1 hp ht hty (hf2.mono (fun _ _ h => .inl h)) hb2 (fun z hz => .inl hz)
      rw [← HMD.out] at hm2
      have HRL2 := hid hm2.lt
      have HM2 := hid hm2
      have HV2 := hid hv2
      have HL2 := hid (HL1.out.fr hf2 (by omega))
      have hs12 := hf2.size
      clear hty hq1 hm2 hv2 hf2 hb2 HL1
      go_wp2_with (first | still_step | (with_reducible first | refine wpStill_nil ?_ | refine Flow.Both.mk ?_ ?_ | exact True.intro) | (with_reducible refine Flow.same_mk rfl rfl rfl ?_; go_simp; done) | (with_reducible exact Flow.same_un rfl rfl rfl) | (refine Flow.region_still mixed ?hB ?_; (case hB => decide +kernel)))
      go_at_call 81
      obtain ⟨wd, hwd, hfd⟩ : ∃ wd, wd = w2.alloc (.cells #[.int .i64 x, .int .i64 y] 124) ∧ Fr (fun _ => False) w2 wd := ⟨_, rfl, by (with_reducible repeat' (first | exact Fr.refl _ _ | apply Fr.alloc | apply Fr.drew | apply Fr.drewN | refine Fr.setCell ?_ ?_ _))⟩
      have HE2 := hid (show Blk wd w2.heap.size #[.int .i64 x, .int .i64 y] 124 by rw [hwd]; exact Blk.new w2 _ _)
      rw [← hwd]
      have HM2' := hid (HM2.out.fr hfd (fun _ _ h => h))
      have HL2' := hid (HL2.out.fr hfd (fun h => h))
      have HV2' := hid (show Mv R2 R2 w2 wd from Mv.of_fr hfd)
      have hs2d := hfd.size
      have hel := HE2.out.lt
      have hlw2 := HL2.out.lt
      clear HM2 HL2 hwd hfd
      have HM2 := hid HM2'.out
      have HL2 := hid HL2'.out
      clear HM2' HL2'
      obtain ⟨ma, mc, c1, hma, hmem⟩ := memRow HM2.out
      have HMEM := hid hmem
      clear hmem
      by_cases hr : 0 ≤ x ∧ x < m2.mem.length
      · obtain ⟨j, rfl⟩ : ∃ j : Nat, x = j := ⟨x.toNat, by omega⟩
        have hj : j < m2.mem.length := by omega
        obtain ⟨rr, off, rfl, hcell, hfz, hrR, hrt, hset⟩ := HMEM.out j hj
        have hrl := World.block_lt_of_cell? _ _ hcell
        dsimp only at hrl
        have HSET := hid (hset y)
        have hput : put m2.mem ((j : Int), y) = m2.mem.set j y := by unfold put; rw [if_pos hr]; simp
        have hat := at_is B (some ⟨rr, off, none⟩) mc m2.mem.length (j : Int) wd c1 (.inr ⟨rr, off, rfl⟩)
        rw [show wordPtr (some ⟨rr, off, none⟩) m2.mem.length (j : Int) = some ⟨rr, off + j, none⟩ by simp [wordPtr, hj]] at hat
        have hmm : mm = m2.mem.set j y := HMM.out.trans hput
        subst hmm
        refine hat.mono ?_
        clear hat
        rintro e w3 ⟨rfl, hf3⟩
        have HF3 := hid (HV2'.out.2.2.trans (hf3.mono (S2 := R2) (fun _ _ h => h.elim)) (fun _ _ h => h))
        have HE3 := hid (HE2.out.fr hf3 (fun h => h))
        have c0_e := Blk.cell HE3.out 0
        have f0_e := Blk.free HE3.out 0
        have c1_e := Blk.cell HE3.out 1
        have f1_e := Blk.free HE3.out 1
        have l_e := Blk.lt HE3.out
        have hne3 : ¬ (w2.heap.size = w.heap.size) := by omega
        have hne4 : ¬ (w.heap.size = w2.heap.size) := by omega
        have HL3 := hid (HL2.out.fr hf3 (fun h => h))
        have HM3 := hid (HM2.out.fr hf3 (fun _ _ h => h))
        obtain ⟨ma', mc', c1', _, hmem'⟩ := memRow HM3.out
        obtain ⟨rr', off', he', hcell', hfz', _, _, hset'⟩ := hmem' j hj
        have hsl : (some ⟨rr, off, none⟩ : Option Addr) = ma' := by
          have h3 := hf3.cell c1 (fun h => h)
          rw [h3] at c1'
          simp at c1'
          exact c1'.1
        rw [← hsl] at he'
        simp only [Option.some.injEq, Addr.mk.injEq, and_true] at he'
        obtain ⟨rfl, rfl⟩ := he'
        have HSET3 := hid (hset' y)
        have hne5 : ¬ (w2.heap.size = rr) := fun e => by have := HRL2.out rr hrR; omega
        have hne6 : ¬ (rr = w2.heap.size) := fun e => hne5 e.symm
        have hne : ¬ (w.heap.size = rr) := fun e => by have := (ty_blk HL2.out).symm.trans (e ▸ hrt); exact absurd (Option.some.inj this) (by decide)
        have hne2 : ¬ (rr = w.heap.size) := fun e => hne e.symm
        have hs23 := hf3.size
        clear hf3 hmem' hset' hcell c1 c1' hset hfz
        go_wp2_with (first | ((with_reducible apply wpList_storeA (b := w.heap.size) (C := #[.int .i64 0, .int .i64 0, .int .i64 0, .int .i64 0]) (T := 37)); (case zsx => rfl); (case zsy => rfl); (case zsn => rfl); (case zsi => exact szLK); (case zs1 => rfl); (case zsb => ((repeat' (first | with_reducible exact HL1.out | with_reducible exact HL2.out | with_reducible exact HL3.out | with_reducible exact HL4.out | with_reducible apply Blk.drew | with_reducible apply Blk.alloc | (with_reducible refine Blk.set_ne ?_ ?_ _))); all_goals (first | omega | (simp; omega) | (simp; done)))); intro w9 hb9 hf9 hs9; have HB9 := hid hb9; have HF9 := hid hf9; have HSZ9 := hid hs9; clear hb9 hf9 hs9) | still_step | (with_reducible first | refine wpStill_nil ?_ | refine Flow.Both.mk ?_ ?_ | exact True.intro) | (with_reducible refine Flow.same_mk rfl rfl rfl ?_; go_simp; done) | (with_reducible exact Flow.same_un rfl rfl rfl) | (refine Flow.region_still mixed ?hB ?_; (case hB => decide +kernel)))
        refine bodyPost_ret (HRES.out _ rfl _ _ _ rfl HB9.out) rfl ?_
        have hF9 : Fr (fun z => z = w.heap.size) (w3.setCell ⟨rr, off + j, none⟩ (.int .i64 y)) w9 := (show Fr (fun z => z = w.heap.size) _ _ from by (with_reducible repeat' (first | exact Fr.refl _ _ | apply Fr.alloc | apply Fr.drew | apply Fr.drewN | refine Fr.setCell ?_ ?_ _))).trans HF9.out (fun _ _ h => h)
        have hns : ∀ z, R2 z → ¬ (z = w.heap.size) := fun z hz e => by
          rcases HV2.out.2.1 z hz with h | h
          · have := HRL.out z h; omega
          · have := HL2.out.lt; omega
        refine ⟨rfl, R2, MR.fr ⟨_, HSET3.out.1⟩ hF9 hns, HV2.out.1, fun z hz => ?_, ?_⟩
        · rcases HV2.out.2.1 z hz with h | h
          · exact .inl h
          · exact .inr (by omega)
        · refine ((((HF1.out.mono (S2 := R) (fun _ _ h => h.elim)).trans HV2.out.2.2 (fun _ _ h => h)).trans HF3.out (fun z hz h => (HV2.out.2.1 z h).elim id (fun h => by omega))).trans HSET3.out.2 (fun z hz e => ?_)).trans hF9 (fun z hz e => by omega)
          rw [e] at hz ⊢
          rcases HV2.out.2.1 rr hrR with h | h
          · exact h
          · omega
      · have hput : put m2.mem (x, y) = m2.mem := by unfold put; rw [if_neg hr]
        have hat := at_is B ma mc m2.mem.length x wd c1 hma
        rw [show wordPtr ma m2.mem.length x = none by unfold wordPtr; rw [if_neg hr]] at hat
        have hmm : mm = m2.mem := HMM.out.trans hput
        subst hmm
        refine hat.mono ?_
        clear hat
        rintro e w3 ⟨rfl, hf3⟩
        have HF3 := hid (HV2'.out.2.2.trans (hf3.mono (S2 := R2) (fun _ _ h => h.elim)) (fun _ _ h => h))
        have HE3 := hid (HE2.out.fr hf3 (fun h => h))
        have c0_e := Blk.cell HE3.out 0
        have f0_e := Blk.free HE3.out 0
        have c1_e := Blk.cell HE3.out 1
        have f1_e := Blk.free HE3.out 1
        have l_e := Blk.lt HE3.out
        have hne3 : ¬ (w2.heap.size = w.heap.size) := by omega
        have hne4 : ¬ (w.heap.size = w2.heap.size) := by omega
        have HL3 := hid (HL2.out.fr hf3 (fun h => h))
        have HM3 := hid (HM2.out.fr hf3 (fun _ _ h => h))
        have hs23 := hf3.size
        clear hf3 c1
        go_wp2_with (first | ((with_reducible apply wpList_storeA (b := w.heap.size) (C := #[.int .i64 0, .int .i64 0, .int .i64 0, .int .i64 0]) (T := 37)); (case zsx => rfl); (case zsy => rfl); (case zsn => rfl); (case zsi => exact szLK); (case zs1 => rfl); (case zsb => ((repeat' (first | with_reducible exact HL1.out | with_reducible exact HL2.out | with_reducible exact HL3.out | with_reducible exact HL4.out | with_reducible apply Blk.drew | with_reducible apply Blk.alloc | (with_reducible refine Blk.set_ne ?_ ?_ _))); all_goals (first | omega | (simp; omega) | (simp; done)))); intro w9 hb9 hf9 hs9; have HB9 := hid hb9; have HF9 := hid hf9; have HSZ9 := hid hs9; clear hb9 hf9 hs9) | still_step | (with_reducible first | refine wpStill_nil ?_ | refine Flow.Both.mk ?_ ?_ | exact True.intro) | (with_reducible refine Flow.same_mk rfl rfl rfl ?_; go_simp; done) | (with_reducible exact Flow.same_un rfl rfl rfl) | (refine Flow.region_still mixed ?hB ?_; (case hB => decide +kernel)))
        refine bodyPost_ret (HRES.out _ rfl _ _ _ rfl HB9.out) rfl ?_
        have hF9 : Fr (fun z => z = w.heap.size) w3 w9 := (show Fr (fun z => z = w.heap.size) _ _ from by (with_reducible repeat' (first | exact Fr.refl _ _ | apply Fr.alloc | apply Fr.drew | apply Fr.drewN | refine Fr.setCell ?_ ?_ _))).trans HF9.out (fun _ _ h => h)
        have hns : ∀ z, R2 z → ¬ (z = w.heap.size) := fun z hz e => by
          rcases HV2.out.2.1 z hz with h | h
          · have := HRL.out z h; omega
          · have := HL2.out.lt; omega
        refine ⟨rfl, R2, MR.fr ⟨_, HM3.out⟩ hF9 hns, HV2.out.1, fun z hz => ?_, ?_⟩
        · rcases HV2.out.2.1 z hz with h | h
          · exact .inl h
          · exact .inr (by omega)
        · exact (((HF1.out.mono (S2 := R) (fun _ _ h => h.elim)).trans HV2.out.2.2 (fun _ _ h => h)).trans HF3.out (fun z hz h => (HV2.out.2.1 z h).elim id (fun h => by omega))).trans hF9 (fun z hz e => by omega)
end Go.Proofs.Ytbfeopakmjcapaa.Tso
