/-
  A branch is guessed, the wrong way.
-/
import Derived.Test.YtbfeopakmjcapaaSpF
set_option linter.unusedVariables false
set_option linter.unusedSimpArgs false
set_option maxHeartbeats 4000000
set_option maxRecDepth 8000
namespace Go.Proofs.Ytbfeopakmjcapaa.Sp
open Go.RowKit Go.Proofs.Ytbfeopakmjcapaa.Seq Go.Proofs.Ytbfeopakmjcapaa.Tso
attribute [local irreducible] wpStill wpList Calls CallsIn

/-- A thread's value, its place turned. -/
theorem stand_place (T : Th) (ta : Option Addr) (tc : Nat) (p : Int) : ((standV T ta tc).toArray).setIfInBounds 0 (.int .i64 p) = (standV { T with place := p } ta tc).toArray := rfl

theorem turn_is (SB : Nat) (R : Nat → Prop) (s : SM) (n : Int) (o : Op) (w : World) (h : SR w R SB s) (hg : s.guesses n = some o) (hgd : GoodM s.x) (hln : o.1.length ≤ 1000) (hth : s.x.room ≤ 1000) :
    Calls Try.prog 35 #[.pointer (some ⟨SB, 0, none⟩), .int .i64 n] w fun e w' => e = .returned (.tuple #[leakV (s.turn n o).2.1, .bool (s.turn n o).2.2]) ∧ ∃ R', SR w' R' SB (s.turn n o).1 ∧ Mv R R' w w' := by
  obtain ⟨res, hrs⟩ : ∃ r, r = s.turn n o := ⟨_, rfl⟩
  rw [← hrs]
  have HRS := hid hrs
  clear hrs
  obtain ⟨B, OB, oc, ids, D, A, C, V, G, Rm, h⟩ := h
  have HH := hid h
  obtain ⟨k, rfl, hgo⟩ := guesses_get hg
  have HGO := hid hgo
  obtain ⟨d4, hd4, hd5⟩ := unLK
  have HL := hid (Blk.new w #[.int .i64 0, .int .i64 0, .int .i64 0, .int .i64 0] 37)
  have hres := fun (C : Array Value) (hC : C.size = 4) (tmps : Array Value) (w : World) (b : Nat) (ha : tmps.getD 4 undef = .pointer (some ⟨b, 0, none⟩)) (hb : Blk w b C 37) => results_ct (P := Try.prog) Try.results35 ha hb hd4 hd5 (by rw [hC]; exact szLK)
  have HRES := hid hres
  have h16 := regs16 h.mr (k : Int)
  have hwt := th_ok h.mr (k : Int)
  clear hres h hg hgo
  go_enter Try.func35, Try.ntmps35
  go_wp2_with (first | still_step | (with_reducible first | refine wpStill_nil ?_ | refine Flow.Both.mk ?_ ?_ | exact True.intro) | (with_reducible refine Flow.same_mk rfl rfl rfl ?_; go_simp; done) | (with_reducible exact Flow.same_un rfl rfl rfl) | (refine Flow.region_still mixed ?hB ?_; (case hB => decide +kernel)))
  go_at_call 59
  refine Calls.named fun wc hwc => ?_
  have hfc : Fr (fun _ => False) w wc := by rw [hwc]; (with_reducible repeat' (first | exact Fr.refl _ _ | apply Fr.alloc | apply Fr.drew | apply Fr.drewN | refine Fr.setCell ?_ ?_ _))
  have hlc : Blk wc w.heap.size #[.int .i64 0, .int .i64 0, .int .i64 0, .int .i64 0] 37 := by rw [hwc]; (repeat (with_reducible apply Blk.drew)); exact HL.out
  refine (begin_is (HH.out.fr hfc (fun _ _ h => h)) HGO.out 7).mono ?_
  rintro e w1 ⟨ta, tc, rfl, ho1, hf1⟩
  have hrs := HRS.out
  unfold SM.turn at hrs
  dsimp only at hrs
  obtain ⟨T, hT⟩ : ∃ T, T = (s.x.th (k : Int)).getD noTh := ⟨_, rfl⟩
  obtain ⟨iv, hiv⟩ : ∃ iv, iv = (s.x.next (k : Int)).getD noneI := ⟨_, rfl⟩
  rw [← hT, ← hiv] at hrs
  rw [← hT] at ho1 h16 hwt ⊢
  rw [← hiv]
  obtain ⟨vT, hvT⟩ : ∃ vT, vT = (standV T ta tc).toArray := ⟨_, rfl⟩
  have HSD := hid (by have := stand_of T ta tc h16; rw [← hvT] at this; exact this : Stand T ta tc vT)
  rw [← hvT]
  have HF1 := hid (hfc.trans hf1 (fun _ _ h => h))
  have HL1 := hid (hlc.fr hf1 (fun h => h))
  have HO1 := hid (ho1.mono (R2 := fun z => wc.heap.size ≤ z ∧ z < w1.heap.size) (fun z hz h => ⟨h, hz⟩))
  have hwc1 : w.heap.size < wc.heap.size := hlc.lt
  have hwl1 : w.heap.size < w1.heap.size := HL1.out.lt
  have hcl1 : wc.heap.size ≤ w1.heap.size := hf1.size
  have HVT := hid hvT
  have HT16 := hid h16
  have HTW := hid (show T.wait.length ≤ 1000 by omega)
  have HI := hid hiv
  have HTT := hid hT
  clear hfc hlc hf1 ho1 hvT hT h16 hwt hwc HL
  by_cases hbg : s.begins (k : Int) o 7
  · rw [if_pos hbg] at hrs
    obtain ⟨kn, hkn⟩ : ∃ kn : Int, kn = if T.reg iv.a = 0 then 0 else 1 := ⟨_, rfl⟩
    obtain ⟨tt, htt⟩ : ∃ tt, tt = turned T iv := ⟨_, rfl⟩
    rw [← hkn, ← htt] at hrs
    subst hrs
    have HKN := hid hkn
    have HUT := hid htt
    clear hkn htt
    rw [decide_eq_true hbg]
    obtain ⟨hsome, hik, hwin⟩ := hbg
    have hok : insOk T.code.length s.x.own.length iv := by
      cases hn : s.x.next (k : Int) with
      | none => rw [hn] at hsome; cases hsome
      | some i =>
        obtain ⟨t, ht, hop⟩ : ∃ t, s.x.th (k : Int) = some t ∧ t.next = some i := by
          unfold M.next at hn
          cases ht : s.x.th (k : Int) with
          | none => rw [ht] at hn; cases hn
          | some t => rw [ht] at hn; exact ⟨t, rfl, hn⟩
        have e1 : iv = i := by rw [hiv, hn]; rfl
        have hin : i ∈ t.code := by
          unfold Th.next at hop
          split at hop
          · exact List.mem_of_getElem? hop
          · cases hop
        have hTt : T = t := by have := HTT.out; rw [ht] at this; exact this
        rw [e1, hTt]
        exact hgd _ t (th_get ht) i hin
    rw [← hiv] at hik
    obtain ⟨ik, iop, idd, ia, ib, inn, ito⟩ := iv
    dsimp only at hik
    subst hik
    obtain ⟨_, _, _, _, _, _, qa, qb, _⟩ := hok
    dsimp only at qa qb
    obtain ⟨a, rfl⟩ : ∃ a : Nat, ia = a := ⟨ia.toNat, by omega⟩
    have ha16 : a < 16 := by omega
    clear qa qb hsome hwin
    dsimp only [insC]
    obtain ⟨ov, hov⟩ : ∃ ov, ov = T.regs.getD a 0 := ⟨_, rfl⟩
    have hreg : T.reg ((a : Nat) : Int) = ov := by rw [hov]; rfl
    obtain ⟨TP, hTP⟩ : ∃ TP, TP = T.place := ⟨_, rfl⟩
    have HTP := hid hTP
    have HOV := hid hov
    have HREG := hid hreg
    clear hTP hov hreg
    by_cases hz : ov = 0
    · have hz2 : (ov == 0) = true := by simpa using hz
      have hz3 : (ov != 0) = false := by simpa using hz
      have HZ := hid hz
      clear hz
      go_wp2_with (first | ((with_reducible apply wpList_allocA (ty := 45) (standV noTh none 0).toArray); (case zai => exact zTHR2); (case zac => rfl); intro wA8 hbA hfA hsA; have HBA8 := hid hbA; have HFA8 := hid hfA; clear hbA hfA hsA) | ((with_reducible apply wpList_storeA (b := w1.heap.size) (C := #[.int .i64 0, .int .i64 0, .int .i64 0, .int .i64 0, .int .i64 0, .int .i64 0, .int .i64 0]) (cells := #[.int .i64 7, .int .i64 iop, .int .i64 idd, .int .i64 (a : Nat), .int .i64 ib, .int .i64 inn, .int .i64 ito]) (T := 57)); (case zsx => rfl); (case zsy => rfl); (case zsn => rfl); (case zsi => exact szINS); (case zs1 => rfl); (case zsb => exact (Blk.new w1 _ _).fr HFA8.out (fun h => h)); intro wI hbI hfI hsI; have HBI := hid hbI; have HFI := hid hfI; clear hbI hfI hsI) | ((with_reducible apply wpList_storeA (b := w1.heap.size + 1) (C := (standV noTh none 0).toArray) (cells := vT) (T := 45)); (case zsx => rfl); (case zsy => rfl); (case zsn => exact HSD.out.size); (case zsi => rw [HSD.out.size]; exact szTHR); (case zs1 => exact HSD.out.one); (case zsb => exact Blk.fr (by have := HBA8.out; simpa using this) HFI.out (fun e => by have e' : w1.heap.size + 1 = w1.heap.size := e; omega)); intro wT hbT hfT hsT; have HVX := hid hbT; have HIX := hid (HBI.out.fr hfT (fun e => by have e' : w1.heap.size = w1.heap.size + 1 := e; omega)); have hft : Fr (fun _ => False) w1 wT := (((show Fr (fun _ => False) w1 _ by (with_reducible repeat' (first | exact Fr.refl _ _ | apply Fr.alloc | apply Fr.drew | apply Fr.drewN | refine Fr.setCell ?_ ?_ _))).trans HFA8.out (fun _ _ h => h)).trans HFI.out (fun z hz e => by have e' : z = w1.heap.size := e; omega)).trans hfT (fun z hz e => by have e' : z = w1.heap.size + 1 := e; omega); have HFT := hid hft; have HL2 := hid (HL1.out.fr hft (fun h => h)); have c8 := (HVX.out.cell 0); have i0 := HIX.out.cell 0; have l8 := HVX.out.lt; clear hbT hfT hsT HBI HFI HBA8 HFA8 hft HL1) | ((with_reducible apply wpList_storeA (b := wT.heap.size) (C := (standV noTh none 0).toArray) (cells := vT) (T := 45)); (case zsx => rfl); (case zsy => rfl); (case zsn => exact HSD.out.size); (case zsi => rw [HSD.out.size]; exact szTHR); (case zs1 => exact HSD.out.one); (case zsb => exact HBA8.out); intro wU hbU hfU hsU; have HUX := hid hbU; have hfm := fr_made HFA8.out hfU (Nat.le_refl _); have HVU := hid (HVX.out.fr hfm (fun h => h)); have hiu := HIX.out.fr hfm (fun h => h); have HFU := hid (HFT.out.trans hfm (fun _ _ h => h)); have HL3 := hid (HL2.out.fr hfm (fun h => h)); have p0 : wU.cell? ⟨w1.heap.size + 1, 0, none⟩ = some (.int .i64 TP) := (by rw [HTP.out]; exact (HVU.out.cell 0).trans HSD.out.place); have fp0 := HVU.out.free 0; have ra : wU.cell? ⟨w1.heap.size + 1, 1 + a, none⟩ = some (.int .i64 ov) := (by rw [HOV.out]; exact (HVU.out.cell (1 + a)).trans (HSD.out.regs a ha16)); have i3 := hiu.cell 3; have i6 := hiu.cell 6; have lU := HUX.out.lt; have lV := HVU.out.lt; have lI := hiu.lt; have lI2 : w1.heap.size < wU.heap.size + 1 := (by omega); have lV2 : w1.heap.size + 1 < wU.heap.size + 1 := (by omega); have nUV : ¬ (wT.heap.size = w1.heap.size + 1) := (by omega); have nVU : ¬ (w1.heap.size + 1 = wT.heap.size) := (by omega); have nIV : ¬ (w1.heap.size = w1.heap.size + 1) := (by omega); have nLV : ¬ (w.heap.size = w1.heap.size + 1) := (by have := HL3.out.lt; omega); clear hbU hfU hsU HBA8 HFA8 hfm hiu HVX HIX HFT HL2 c8 i0 l8) | ((with_reducible apply wpList_loadA (b := wT.heap.size) (C := vT) (T := 45)); (case zlx => rfl); (case zlu => exact unTHR.choose_spec.1); (case zld => exact unTHR.choose_spec.2); (case zli => rw [HSD.out.size]; exact szTHR); (case zlb => (repeat (first | with_reducible exact HUX.out | with_reducible apply Blk.drew | with_reducible apply Blk.alloc | (with_reducible refine Blk.set_ne ?_ ?_ _))) <;> first | omega | (simp; omega) | (simp; done))) | ((with_reducible apply wpList_loadA (b := w1.heap.size + 1) (C := vT.setIfInBounds 0 (.int .i64 (wrap64 (TP + 1)))) (T := 45)); (case zlx => rfl); (case zlu => exact unTHR.choose_spec.1); (case zld => exact unTHR.choose_spec.2); (case zli => simp only [Array.size_setIfInBounds]; rw [HSD.out.size]; exact szTHR); (case zlb => (repeat (first | with_reducible exact HVU.out | with_reducible apply Blk.drew | with_reducible apply Blk.alloc | with_reducible apply Blk.set | (with_reducible refine Blk.set_ne ?_ ?_ _))) <;> first | omega | (simp; omega) | (simp; done))) | ((with_reducible apply wpList_loadA (b := w1.heap.size + 1) (C := (vT.setIfInBounds 0 (.int .i64 (wrap64 (TP + 1)))).setIfInBounds 0 (.int .i64 ito)) (T := 45)); (case zlx => rfl); (case zlu => exact unTHR.choose_spec.1); (case zld => exact unTHR.choose_spec.2); (case zli => simp only [Array.size_setIfInBounds]; rw [HSD.out.size]; exact szTHR); (case zlb => (repeat (first | with_reducible exact HVU.out | with_reducible apply Blk.drew | with_reducible apply Blk.alloc | with_reducible apply Blk.set | (with_reducible refine Blk.set_ne ?_ ?_ _))) <;> first | omega | (simp; omega) | (simp; done))) | ((with_reducible apply wpList_loadA (b := w1.heap.size + 1) (C := vT) (T := 45)); (case zlx => rfl); (case zlu => exact unTHR.choose_spec.1); (case zld => exact unTHR.choose_spec.2); (case zli => rw [HSD.out.size]; exact szTHR); (case zlb => exact HVX.out)) | still_step | (with_reducible first | refine wpStill_nil ?_ | refine Flow.Both.mk ?_ ?_ | exact True.intro) | (with_reducible refine Flow.same_mk rfl rfl rfl ?_; go_simp; done) | (with_reducible exact Flow.same_un rfl rfl rfl) | (refine Flow.region_still mixed ?hB ?_; (case hB => decide +kernel)))
      go_at_call 60
      refine Calls.named fun w5 hw5 => ?_
      have hf15 : Fr (fun _ => False) w1 w5 := by rw [hw5]; (repeat' (first | with_reducible exact HFU.out | with_reducible apply Fr.drew | with_reducible apply Fr.alloc | (with_reducible refine Fr.setCell ?_ (fun e => ?_) _))) <;> (have e' : w1.heap.size + 1 < w1.heap.size := e; omega)
      have hk5 : Blk w5 wU.heap.size #[.int .i64 3, .int .i64 (k : Int), .int .i64 0, .int .i64 0] 37 := by rw [hw5]; (repeat (with_reducible apply Blk.drew)); exact Blk.new' (by simp)
      have hl5 : Blk w5 w.heap.size #[.int .i64 0, .int .i64 0, .int .i64 0, .int .i64 0] 37 := by rw [hw5]; (repeat (first | with_reducible exact HL3.out | with_reducible apply Blk.drew | with_reducible apply Blk.alloc | (with_reducible refine Blk.set_ne ?_ nLV _)))
      have hf5 := HF1.out.trans hf15 (fun _ _ h => h)
      have hei := end_is (HH.out.fr hf5 (fun _ _ h => h)) HGO.out T { T with place := wrap64 (TP + 1) } ta ta tc tc (fun z => wc.heap.size ≤ z ∧ z < w1.heap.size) HT16.out (by first | exact HT16.out | (simp; exact HT16.out)) (HO1.out.vw.fr hf15 (fun _ _ h => h)) (fun z hz hr => by have := HH.out.lt z hr; have := hz.1; omega) hln (by have := HTW.out; (try dsimp only); omega)
      rw [← HVT.out, show (standV { T with place := wrap64 (TP + 1) } ta tc).toArray = vT.setIfInBounds 0 (.int .i64 (wrap64 (TP + 1))) from by rw [HVT.out]; rfl] at hei
      refine hei.mono ?_
      rintro e w6 ⟨rfl, R6, hm6, hv6⟩
      have hlk := hk5.lt
      have hl55 := hl5.lt
      have hk6 := hk5.fr hv6.2.2 (fun hr => by have := HH.out.lt _ hr; have := hf5.size; omega)
      have hl6 := hl5.fr hv6.2.2 (fun hr => by have := HH.out.lt _ hr; omega)
      have q0 := hk6.cell 0
      have q1 := hk6.cell 1
      have q2 := hk6.cell 2
      have q3 := hk6.cell 3
      have lq6 := hk6.lt
      have HL4 := hid hl6
      have HM6 := hid hm6
      have HV6 := hid ((Mv.of_fr (R := R) hf5).trans hv6)
      have HNR := hid (show ¬ R6 w.heap.size from fun hr => by
        rcases hv6.2.1 _ hr with h' | h'
        · have := HH.out.lt _ h'; omega
        · omega)
      clear hf15 hk5 hl5 hf5 hei hm6 hv6 hk6 hl6 hw5 HL3 HVU HUX p0 ra i3 i6 fp0
      go_wp2_with (first | ((with_reducible apply wpList_storeA (b := w.heap.size) (C := #[.int .i64 0, .int .i64 0, .int .i64 0, .int .i64 0]) (T := 37)); (case zsx => rfl); (case zsy => rfl); (case zsn => rfl); (case zsi => exact szLK); (case zs1 => rfl); (case zsb => ((repeat' (first | with_reducible exact HL1.out | with_reducible exact HL2.out | with_reducible exact HL3.out | with_reducible exact HL4.out | with_reducible apply Blk.drew | with_reducible apply Blk.alloc | (with_reducible refine Blk.set_ne ?_ ?_ _))); all_goals (first | omega | (simp; omega) | (simp; done)))); intro w9 hb9 hf9 hs9; have HB9 := hid hb9; have HF9 := hid hf9; have HSZ9 := hid hs9; clear hb9 hf9 hs9) | still_step | (with_reducible first | refine wpStill_nil ?_ | refine Flow.Both.mk ?_ ?_ | exact True.intro) | (with_reducible refine Flow.same_mk rfl rfl rfl ?_; go_simp; done) | (with_reducible exact Flow.same_un rfl rfl rfl) | (refine Flow.region_still mixed ?hB ?_; (case hB => decide +kernel)))
      refine bodyPost_ret (HRES.out _ rfl _ _ _ rfl HB9.out) rfl ?_
      have hF9 : Fr (fun z => z = w.heap.size) w6 w9 := by first | exact HF9.out | exact (Fr.refl _ _).drew.trans HF9.out (fun _ _ h => h)
      have hmr := HM6.out.fr hF9 (fun z hz e => by subst e; exact HNR.out hz)
      have hmv : Mv R R6 w w9 := ⟨HV6.out.1, HV6.out.2.1, HV6.out.2.2.trans hF9 (fun z hz e => by omega)⟩
      have e1 : tt = { T with place := wrap64 (TP + 1) } := by
        rw [HUT.out]
        unfold turned
        dsimp only
        rw [HREG.out, if_pos HZ.out, ← HTP.out]
      have e2 : kn = 0 := by
        have h := HKN.out
        (try dsimp only at h)
        rw [HREG.out, if_pos HZ.out] at h
        exact h
      rw [e1, e2]
      exact ⟨rfl, R6, hmr, hmv⟩
    · have hz2 : (ov == 0) = false := by simpa using hz
      have hz3 : (ov != 0) = true := by simpa using hz
      have HZ := hid hz
      clear hz
      go_wp2_with (first | ((with_reducible apply wpList_allocA (ty := 45) (standV noTh none 0).toArray); (case zai => exact zTHR2); (case zac => rfl); intro wA8 hbA hfA hsA; have HBA8 := hid hbA; have HFA8 := hid hfA; clear hbA hfA hsA) | ((with_reducible apply wpList_storeA (b := w1.heap.size) (C := #[.int .i64 0, .int .i64 0, .int .i64 0, .int .i64 0, .int .i64 0, .int .i64 0, .int .i64 0]) (cells := #[.int .i64 7, .int .i64 iop, .int .i64 idd, .int .i64 (a : Nat), .int .i64 ib, .int .i64 inn, .int .i64 ito]) (T := 57)); (case zsx => rfl); (case zsy => rfl); (case zsn => rfl); (case zsi => exact szINS); (case zs1 => rfl); (case zsb => exact (Blk.new w1 _ _).fr HFA8.out (fun h => h)); intro wI hbI hfI hsI; have HBI := hid hbI; have HFI := hid hfI; clear hbI hfI hsI) | ((with_reducible apply wpList_storeA (b := w1.heap.size + 1) (C := (standV noTh none 0).toArray) (cells := vT) (T := 45)); (case zsx => rfl); (case zsy => rfl); (case zsn => exact HSD.out.size); (case zsi => rw [HSD.out.size]; exact szTHR); (case zs1 => exact HSD.out.one); (case zsb => exact Blk.fr (by have := HBA8.out; simpa using this) HFI.out (fun e => by have e' : w1.heap.size + 1 = w1.heap.size := e; omega)); intro wT hbT hfT hsT; have HVX := hid hbT; have HIX := hid (HBI.out.fr hfT (fun e => by have e' : w1.heap.size = w1.heap.size + 1 := e; omega)); have hft : Fr (fun _ => False) w1 wT := (((show Fr (fun _ => False) w1 _ by (with_reducible repeat' (first | exact Fr.refl _ _ | apply Fr.alloc | apply Fr.drew | apply Fr.drewN | refine Fr.setCell ?_ ?_ _))).trans HFA8.out (fun _ _ h => h)).trans HFI.out (fun z hz e => by have e' : z = w1.heap.size := e; omega)).trans hfT (fun z hz e => by have e' : z = w1.heap.size + 1 := e; omega); have HFT := hid hft; have HL2 := hid (HL1.out.fr hft (fun h => h)); have c8 := (HVX.out.cell 0); have i0 := HIX.out.cell 0; have l8 := HVX.out.lt; clear hbT hfT hsT HBI HFI HBA8 HFA8 hft HL1) | ((with_reducible apply wpList_storeA (b := wT.heap.size) (C := (standV noTh none 0).toArray) (cells := vT) (T := 45)); (case zsx => rfl); (case zsy => rfl); (case zsn => exact HSD.out.size); (case zsi => rw [HSD.out.size]; exact szTHR); (case zs1 => exact HSD.out.one); (case zsb => exact HBA8.out); intro wU hbU hfU hsU; have HUX := hid hbU; have hfm := fr_made HFA8.out hfU (Nat.le_refl _); have HVU := hid (HVX.out.fr hfm (fun h => h)); have hiu := HIX.out.fr hfm (fun h => h); have HFU := hid (HFT.out.trans hfm (fun _ _ h => h)); have HL3 := hid (HL2.out.fr hfm (fun h => h)); have p0 : wU.cell? ⟨w1.heap.size + 1, 0, none⟩ = some (.int .i64 TP) := (by rw [HTP.out]; exact (HVU.out.cell 0).trans HSD.out.place); have fp0 := HVU.out.free 0; have ra : wU.cell? ⟨w1.heap.size + 1, 1 + a, none⟩ = some (.int .i64 ov) := (by rw [HOV.out]; exact (HVU.out.cell (1 + a)).trans (HSD.out.regs a ha16)); have i3 := hiu.cell 3; have i6 := hiu.cell 6; have lU := HUX.out.lt; have lV := HVU.out.lt; have lI := hiu.lt; have lI2 : w1.heap.size < wU.heap.size + 1 := (by omega); have lV2 : w1.heap.size + 1 < wU.heap.size + 1 := (by omega); have nUV : ¬ (wT.heap.size = w1.heap.size + 1) := (by omega); have nVU : ¬ (w1.heap.size + 1 = wT.heap.size) := (by omega); have nIV : ¬ (w1.heap.size = w1.heap.size + 1) := (by omega); have nLV : ¬ (w.heap.size = w1.heap.size + 1) := (by have := HL3.out.lt; omega); clear hbU hfU hsU HBA8 HFA8 hfm hiu HVX HIX HFT HL2 c8 i0 l8) | ((with_reducible apply wpList_loadA (b := wT.heap.size) (C := vT) (T := 45)); (case zlx => rfl); (case zlu => exact unTHR.choose_spec.1); (case zld => exact unTHR.choose_spec.2); (case zli => rw [HSD.out.size]; exact szTHR); (case zlb => (repeat (first | with_reducible exact HUX.out | with_reducible apply Blk.drew | with_reducible apply Blk.alloc | (with_reducible refine Blk.set_ne ?_ ?_ _))) <;> first | omega | (simp; omega) | (simp; done))) | ((with_reducible apply wpList_loadA (b := w1.heap.size + 1) (C := vT.setIfInBounds 0 (.int .i64 (wrap64 (TP + 1)))) (T := 45)); (case zlx => rfl); (case zlu => exact unTHR.choose_spec.1); (case zld => exact unTHR.choose_spec.2); (case zli => simp only [Array.size_setIfInBounds]; rw [HSD.out.size]; exact szTHR); (case zlb => (repeat (first | with_reducible exact HVU.out | with_reducible apply Blk.drew | with_reducible apply Blk.alloc | with_reducible apply Blk.set | (with_reducible refine Blk.set_ne ?_ ?_ _))) <;> first | omega | (simp; omega) | (simp; done))) | ((with_reducible apply wpList_loadA (b := w1.heap.size + 1) (C := (vT.setIfInBounds 0 (.int .i64 (wrap64 (TP + 1)))).setIfInBounds 0 (.int .i64 ito)) (T := 45)); (case zlx => rfl); (case zlu => exact unTHR.choose_spec.1); (case zld => exact unTHR.choose_spec.2); (case zli => simp only [Array.size_setIfInBounds]; rw [HSD.out.size]; exact szTHR); (case zlb => (repeat (first | with_reducible exact HVU.out | with_reducible apply Blk.drew | with_reducible apply Blk.alloc | with_reducible apply Blk.set | (with_reducible refine Blk.set_ne ?_ ?_ _))) <;> first | omega | (simp; omega) | (simp; done))) | ((with_reducible apply wpList_loadA (b := w1.heap.size + 1) (C := vT) (T := 45)); (case zlx => rfl); (case zlu => exact unTHR.choose_spec.1); (case zld => exact unTHR.choose_spec.2); (case zli => rw [HSD.out.size]; exact szTHR); (case zlb => exact HVX.out)) | still_step | (with_reducible first | refine wpStill_nil ?_ | refine Flow.Both.mk ?_ ?_ | exact True.intro) | (with_reducible refine Flow.same_mk rfl rfl rfl ?_; go_simp; done) | (with_reducible exact Flow.same_un rfl rfl rfl) | (refine Flow.region_still mixed ?hB ?_; (case hB => decide +kernel)))
      go_at_call 60
      refine Calls.named fun w5 hw5 => ?_
      have hf15 : Fr (fun _ => False) w1 w5 := by rw [hw5]; (repeat' (first | with_reducible exact HFU.out | with_reducible apply Fr.drew | with_reducible apply Fr.alloc | (with_reducible refine Fr.setCell ?_ (fun e => ?_) _))) <;> (have e' : w1.heap.size + 1 < w1.heap.size := e; omega)
      have hk5 : Blk w5 wU.heap.size #[.int .i64 3, .int .i64 (k : Int), .int .i64 0, .int .i64 1] 37 := by rw [hw5]; (repeat (with_reducible apply Blk.drew)); exact Blk.new' (by simp)
      have hl5 : Blk w5 w.heap.size #[.int .i64 0, .int .i64 0, .int .i64 0, .int .i64 0] 37 := by rw [hw5]; (repeat (first | with_reducible exact HL3.out | with_reducible apply Blk.drew | with_reducible apply Blk.alloc | (with_reducible refine Blk.set_ne ?_ nLV _)))
      have hf5 := HF1.out.trans hf15 (fun _ _ h => h)
      have hei := end_is (HH.out.fr hf5 (fun _ _ h => h)) HGO.out T { T with place := ito } ta ta tc tc (fun z => wc.heap.size ≤ z ∧ z < w1.heap.size) HT16.out (by first | exact HT16.out | (simp; exact HT16.out)) (HO1.out.vw.fr hf15 (fun _ _ h => h)) (fun z hz hr => by have := HH.out.lt z hr; have := hz.1; omega) hln (by have := HTW.out; (try dsimp only); omega)
      rw [← HVT.out, show (standV { T with place := ito } ta tc).toArray = vT.setIfInBounds 0 (.int .i64 ito) from by rw [HVT.out]; rfl] at hei
      refine hei.mono ?_
      rintro e w6 ⟨rfl, R6, hm6, hv6⟩
      have hlk := hk5.lt
      have hl55 := hl5.lt
      have hk6 := hk5.fr hv6.2.2 (fun hr => by have := HH.out.lt _ hr; have := hf5.size; omega)
      have hl6 := hl5.fr hv6.2.2 (fun hr => by have := HH.out.lt _ hr; omega)
      have q0 := hk6.cell 0
      have q1 := hk6.cell 1
      have q2 := hk6.cell 2
      have q3 := hk6.cell 3
      have lq6 := hk6.lt
      have HL4 := hid hl6
      have HM6 := hid hm6
      have HV6 := hid ((Mv.of_fr (R := R) hf5).trans hv6)
      have HNR := hid (show ¬ R6 w.heap.size from fun hr => by
        rcases hv6.2.1 _ hr with h' | h'
        · have := HH.out.lt _ h'; omega
        · omega)
      clear hf15 hk5 hl5 hf5 hei hm6 hv6 hk6 hl6 hw5 HL3 HVU HUX p0 ra i3 i6 fp0
      go_wp2_with (first | ((with_reducible apply wpList_storeA (b := w.heap.size) (C := #[.int .i64 0, .int .i64 0, .int .i64 0, .int .i64 0]) (T := 37)); (case zsx => rfl); (case zsy => rfl); (case zsn => rfl); (case zsi => exact szLK); (case zs1 => rfl); (case zsb => ((repeat' (first | with_reducible exact HL1.out | with_reducible exact HL2.out | with_reducible exact HL3.out | with_reducible exact HL4.out | with_reducible apply Blk.drew | with_reducible apply Blk.alloc | (with_reducible refine Blk.set_ne ?_ ?_ _))); all_goals (first | omega | (simp; omega) | (simp; done)))); intro w9 hb9 hf9 hs9; have HB9 := hid hb9; have HF9 := hid hf9; have HSZ9 := hid hs9; clear hb9 hf9 hs9) | still_step | (with_reducible first | refine wpStill_nil ?_ | refine Flow.Both.mk ?_ ?_ | exact True.intro) | (with_reducible refine Flow.same_mk rfl rfl rfl ?_; go_simp; done) | (with_reducible exact Flow.same_un rfl rfl rfl) | (refine Flow.region_still mixed ?hB ?_; (case hB => decide +kernel)))
      refine bodyPost_ret (HRES.out _ rfl _ _ _ rfl HB9.out) rfl ?_
      have hF9 : Fr (fun z => z = w.heap.size) w6 w9 := by first | exact HF9.out | exact (Fr.refl _ _).drew.trans HF9.out (fun _ _ h => h)
      have hmr := HM6.out.fr hF9 (fun z hz e => by subst e; exact HNR.out hz)
      have hmv : Mv R R6 w w9 := ⟨HV6.out.1, HV6.out.2.1, HV6.out.2.2.trans hF9 (fun z hz e => by omega)⟩
      have e1 : tt = { T with place := ito } := by
        rw [HUT.out]
        unfold turned
        dsimp only
        rw [HREG.out, if_neg HZ.out]
      have e2 : kn = 1 := by
        have h := HKN.out
        (try dsimp only at h)
        rw [HREG.out, if_neg HZ.out] at h
        exact h
      rw [e1, e2]
      exact ⟨rfl, R6, hmr, hmv⟩
  · rw [if_neg hbg] at hrs
    subst hrs
    rw [decide_eq_false hbg]
    clear hbg hiv
    obtain ⟨ik, iop, idd, ia, ib, inn, ito⟩ := iv
    dsimp only [insC]
    go_wp2_with (first | ((with_reducible apply wpList_allocA (ty := 45) (standV noTh none 0).toArray); (case zai => exact zTHR2); (case zac => rfl); intro wA8 hbA hfA hsA; have HBA8 := hid hbA; have HFA8 := hid hfA; clear hbA hfA hsA) | ((with_reducible apply wpList_storeA (b := w1.heap.size) (C := #[.int .i64 0, .int .i64 0, .int .i64 0, .int .i64 0, .int .i64 0, .int .i64 0, .int .i64 0]) (cells := #[.int .i64 ik, .int .i64 iop, .int .i64 idd, .int .i64 ia, .int .i64 ib, .int .i64 inn, .int .i64 ito]) (T := 57)); (case zsx => rfl); (case zsy => rfl); (case zsn => rfl); (case zsi => exact szINS); (case zs1 => rfl); (case zsb => exact (Blk.new w1 _ _).fr HFA8.out (fun h => h)); intro wI hbI hfI hsI; have HBI := hid hbI; have HFI := hid hfI; clear hbI hfI hsI) | ((with_reducible apply wpList_storeA (b := w1.heap.size + 1) (C := (standV noTh none 0).toArray) (cells := vT) (T := 45)); (case zsx => rfl); (case zsy => rfl); (case zsn => exact HSD.out.size); (case zsi => rw [HSD.out.size]; exact szTHR); (case zs1 => exact HSD.out.one); (case zsb => exact Blk.fr (by have := HBA8.out; simpa using this) HFI.out (fun e => by have e' : w1.heap.size + 1 = w1.heap.size := e; omega)); intro wT hbT hfT hsT; have HVX := hid hbT; have HIX := hid (HBI.out.fr hfT (fun e => by have e' : w1.heap.size = w1.heap.size + 1 := e; omega)); have hft : Fr (fun _ => False) w1 wT := (((show Fr (fun _ => False) w1 _ by (with_reducible repeat' (first | exact Fr.refl _ _ | apply Fr.alloc | apply Fr.drew | apply Fr.drewN | refine Fr.setCell ?_ ?_ _))).trans HFA8.out (fun _ _ h => h)).trans HFI.out (fun z hz e => by have e' : z = w1.heap.size := e; omega)).trans hfT (fun z hz e => by have e' : z = w1.heap.size + 1 := e; omega); have HFT := hid hft; have HL2 := hid (HL1.out.fr hft (fun h => h)); have c8 := (HVX.out.cell 0); have i0 := HIX.out.cell 0; have l8 := HVX.out.lt; clear hbT hfT hsT HBI HFI HBA8 HFA8 hft HL1) | ((with_reducible apply wpList_storeA (b := w.heap.size) (C := #[.int .i64 0, .int .i64 0, .int .i64 0, .int .i64 0]) (T := 37)); (case zsx => rfl); (case zsy => rfl); (case zsn => rfl); (case zsi => exact szLK); (case zs1 => rfl); (case zsb => ((repeat' (first | with_reducible exact HL1.out | with_reducible exact HL2.out | with_reducible exact HL3.out | with_reducible exact HL4.out | with_reducible apply Blk.drew | with_reducible apply Blk.alloc | (with_reducible refine Blk.set_ne ?_ ?_ _))); all_goals (first | omega | (simp; omega) | (simp; done)))); intro w9 hb9 hf9 hs9; have HB9 := hid hb9; have HF9 := hid hf9; have HSZ9 := hid hs9; clear hb9 hf9 hs9) | still_step | (with_reducible first | refine wpStill_nil ?_ | refine Flow.Both.mk ?_ ?_ | exact True.intro) | (with_reducible refine Flow.same_mk rfl rfl rfl ?_; go_simp; done) | (with_reducible exact Flow.same_un rfl rfl rfl) | (refine Flow.region_still mixed ?hB ?_; (case hB => decide +kernel)))
    refine bodyPost_ret (HRES.out _ rfl _ _ _ rfl HB9.out) rfl ?_
    have hft := HF1.out.trans HFT.out (fun _ _ h => h)
    have hF9 : Fr (fun _ => False) w w9 := fr_weaken (by (repeat' (first | with_reducible exact hft | with_reducible apply Fr.alloc | with_reducible apply Fr.drew | (with_reducible refine Fr.setCell ?_ ?_ _)))) HF9.out (Nat.le_refl _)
    exact ⟨rfl, R, SR.fr ⟨B, OB, oc, ids, D, A, C, V, G, Rm, HH.out⟩ hF9 (fun _ _ h => h), Mv.of_fr hF9⟩
end Go.Proofs.Ytbfeopakmjcapaa.Sp
