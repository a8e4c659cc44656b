/-
  A load is guessed, past a waiting store.
-/
import Derived.Test.YtbfeopakmjcapaaSpT
set_option linter.unusedVariables false
set_option linter.unusedSimpArgs false
set_option maxHeartbeats 4000000
set_option maxRecDepth 8000
namespace Go.Proofs.Ytbfeopakmjcapaa.Sp
open Go.RowKit Go.Proofs.Ytbfeopakmjcapaa.Seq Go.Proofs.Ytbfeopakmjcapaa.Tso
attribute [local irreducible] wpStill wpList Calls CallsIn

theorem stand_pass (T : Th) (ta : Option Addr) (tc d : Nat) (a x p : Int) (hT : T.regs.length = 16) (hd : d < 16) :
    (standV { T with regs := T.regs.set d x, place := p } ta tc).toArray = (((standV T ta tc).toArray.setIfInBounds (1 + d) (.int .i64 a)).setIfInBounds (1 + d) (.int .i64 x)).setIfInBounds 0 (.int .i64 p) := by
  obtain ⟨code, place, regs, wait, over⟩ := T
  obtain ⟨r0, r1, r2, r3, r4, r5, r6, r7, r8, r9, r10, r11, r12, r13, r14, r15, rfl⟩ := list16 regs hT
  match d, hd with
  | 0, _ => rfl
  | 1, _ => rfl
  | 2, _ => rfl
  | 3, _ => rfl
  | 4, _ => rfl
  | 5, _ => rfl
  | 6, _ => rfl
  | 7, _ => rfl
  | 8, _ => rfl
  | 9, _ => rfl
  | 10, _ => rfl
  | 11, _ => rfl
  | 12, _ => rfl
  | 13, _ => rfl
  | 14, _ => rfl
  | 15, _ => rfl
  | d + 16, h => exact absurd h (by omega)
theorem stand_pass0 (T : Th) (ta : Option Addr) (tc d : Nat) (x p : Int) (hT : T.regs.length = 16) (hd : d < 16) :
    (standV { T with regs := T.regs.set d x, place := p } ta tc).toArray = ((standV T ta tc).toArray.setIfInBounds (1 + d) (.int .i64 x)).setIfInBounds 0 (.int .i64 p) := by
  rw [stand_pass T ta tc d x x p hT hd, Array.setIfInBounds_setIfInBounds]

theorem pass_is (SB : Nat) (R : Nat → Prop) (s : SM) (n : Int) (o : Op) (w : World) (h : SR w R SB s) (hg : s.guesses n = some o) (hgd : GoodM s.x) (hln : o.1.length ≤ 1000) (hth : s.x.room ≤ 1000) (hml : s.x.mem.length ≤ 100000) :
    Calls Try.prog 36 #[.pointer (some ⟨SB, 0, none⟩), .int .i64 n] w fun e w' => e = .returned (.tuple #[leakV (s.pass n o).2.1, .bool (s.pass n o).2.2]) ∧ ∃ R', SR w' R' SB (s.pass n o).1 ∧ Mv R R' w w' := by
  obtain ⟨res, hrs⟩ : ∃ r, r = s.pass n o := ⟨_, rfl⟩
  rw [← hrs]
  have HRS := hid hrs
  clear hrs
  obtain ⟨B, OB, oc, ids, D, A, C, V, G, Rm, h⟩ := h
  have HH := hid h
  obtain ⟨k, rfl, hgo⟩ := guesses_get hg
  have HGO := hid hgo
  obtain ⟨d4, hd4, hd5⟩ := unLK
  have HL := hid (Blk.new w #[.int .i64 0, .int .i64 0, .int .i64 0, .int .i64 0] 37)
  have hres := fun (C : Array Value) (hC : C.size = 4) (tmps : Array Value) (w : World) (b : Nat) (ha : tmps.getD 4 undef = .pointer (some ⟨b, 0, none⟩)) (hb : Blk w b C 37) => results_ct (P := Try.prog) Try.results36 ha hb hd4 hd5 (by rw [hC]; exact szLK)
  have HRES := hid hres
  have h16 := regs16 h.mr (k : Int)
  have hwt := th_ok h.mr (k : Int)
  clear hres h hg hgo
  go_enter Try.func36, Try.ntmps36
  go_wp2_with (first | still_step | (with_reducible first | refine wpStill_nil ?_ | refine Flow.Both.mk ?_ ?_ | exact True.intro) | (with_reducible refine Flow.same_mk rfl rfl rfl ?_; go_simp; done) | (with_reducible exact Flow.same_un rfl rfl rfl) | (with_reducible refine Flow.region_flow (id := 19) [0, 1, 0, 0, 12, 28, 0, 127, 255] 256 243 [(0, none), (1, none), (2, none), (3, none), (4, none), (5, none), (6, none), (7, none), (8, some [])] mixed ?hB ?_; (case hB => decide +kernel); simp only [Flow.textOf, Flow.q1, Flow.q2, Flow.q3, Flow.q4, Flow.q5, Flow.q6, Flow.q7, Flow.q8, Flow.q9, Flow.wpFl, Flow.SameAll]) | (refine Flow.region_still mixed ?hB ?_; (case hB => decide +kernel)))
  go_at_call 59
  refine Calls.named fun wc hwc => ?_
  have hfc : Fr (fun _ => False) w wc := by rw [hwc]; (with_reducible repeat' (first | exact Fr.refl _ _ | apply Fr.alloc | apply Fr.drew | apply Fr.drewN | refine Fr.setCell ?_ ?_ _))
  have hlc : Blk wc w.heap.size #[.int .i64 0, .int .i64 0, .int .i64 0, .int .i64 0] 37 := by rw [hwc]; (repeat (with_reducible apply Blk.drew)); exact HL.out
  refine (begin_is (HH.out.fr hfc (fun _ _ h => h)) HGO.out 4).mono ?_
  rintro e w1 ⟨ta, tc, rfl, ho1, hf1⟩
  have hrs := HRS.out
  unfold SM.pass at hrs
  dsimp only at hrs
  obtain ⟨T, hT⟩ : ∃ T, T = (s.x.th (k : Int)).getD noTh := ⟨_, rfl⟩
  obtain ⟨iv, hiv⟩ : ∃ iv, iv = (s.x.next (k : Int)).getD noneI := ⟨_, rfl⟩
  rw [← hT, ← hiv] at hrs
  rw [← hT] at ho1 h16 hwt ⊢
  rw [← hiv]
  obtain ⟨vT, hvT⟩ : ∃ vT, vT = (standV T ta tc).toArray := ⟨_, rfl⟩
  have HSD := hid (by have := stand_of T ta tc h16; rw [← hvT] at this; exact this : Stand T ta tc vT)
  rw [← hvT]
  have HF1 := hid (hfc.trans hf1 (fun _ _ h => h))
  have HL1 := hid (hlc.fr hf1 (fun h => h))
  have HO1 := hid (ho1.mono (R2 := fun z => wc.heap.size ≤ z ∧ z < w1.heap.size) (fun z hz h => ⟨h, hz⟩))
  have hwc1 : w.heap.size < wc.heap.size := hlc.lt
  have hwl1 : w.heap.size < w1.heap.size := HL1.out.lt
  have hcl1 : wc.heap.size ≤ w1.heap.size := hf1.size
  have HVT := hid hvT
  have HT16 := hid h16
  have HTW := hid (show T.wait.length ≤ 1000 by omega)
  have HI := hid hiv
  have HTT := hid hT
  clear hfc hlc hf1 ho1 hvT hT h16 hwt hwc HL
  by_cases hbg : s.begins (k : Int) o 4
  · have HBG := hid hbg
    rw [decide_eq_true hbg]
    obtain ⟨hsome, hik, hwin⟩ := hbg
    have hok : insOk T.code.length s.x.own.length iv := by
      cases hn : s.x.next (k : Int) with
      | none => rw [hn] at hsome; cases hsome
      | some i =>
        obtain ⟨t, ht, hop⟩ : ∃ t, s.x.th (k : Int) = some t ∧ t.next = some i := by
          unfold M.next at hn
          cases ht : s.x.th (k : Int) with
          | none => rw [ht] at hn; cases hn
          | some t => rw [ht] at hn; exact ⟨t, rfl, hn⟩
        have e1 : iv = i := by rw [hiv, hn]; rfl
        have hin : i ∈ t.code := by
          unfold Th.next at hop
          split at hop
          · exact List.mem_of_getElem? hop
          · cases hop
        have hTt : T = t := by have := HTT.out; rw [ht] at this; exact this
        rw [e1, hTt]
        exact hgd _ t (th_get ht) i hin
    rw [← hiv] at hik
    obtain ⟨wv, hwv⟩ : ∃ wv, wv = T.word iv := ⟨_, rfl⟩
    rw [← hwv] at hrs
    have HWV := hid hwv
    have HRR := hid hrs
    obtain ⟨ik, iop, idd, ia, ib, inn, ito⟩ := iv
    dsimp only at hik
    subst hik
    obtain ⟨_, _, qd0, qd1, _, _, qa, qb, _⟩ := hok
    dsimp only at qa qb qd0 qd1
    obtain ⟨d, rfl⟩ : ∃ d : Nat, idd = d := ⟨idd.toNat, by omega⟩
    have hd16 : d < 16 := by omega
    clear qd0 qd1 hsome hwin hrs hwv
    dsimp only [insC]
    obtain ⟨TP, hTP⟩ : ∃ TP, TP = T.place := ⟨_, rfl⟩
    have HTP := hid hTP
    obtain ⟨TW, hTW⟩ : ∃ TW, TW = T.wait.length := ⟨_, rfl⟩
    have HTWE := hid hTW
    have p17 := HSD.out.wait
    rw [← hTW] at p17
    have HP17 := hid p17
    clear hTP hTW p17
    by_cases hia : 0 ≤ ia
    · obtain ⟨a, rfl⟩ : ∃ a : Nat, ia = a := ⟨ia.toNat, by omega⟩
      have ha16 : a < 16 := by omega
      obtain ⟨ov, hov⟩ : ∃ ov, ov = T.regs.getD a 0 := ⟨_, rfl⟩
      have hww : wrap64 (inn + ov) = wv := by
        rw [HWV.out]
        unfold Th.word
        dsimp only
        rw [if_neg (by omega), hov]
        rfl
      have HOV := hid hov
      have HWW := hid hww
      clear qa qb hov hww
      go_wp2_with (first | ((with_reducible apply wpList_allocA (ty := 45) (standV noTh none 0).toArray); (case zai => exact zTHR2); (case zac => rfl); intro wA8 hbA hfA hsA; have HBA8 := hid hbA; have HFA8 := hid hfA; clear hbA hfA hsA) | ((with_reducible apply wpList_storeA (b := w1.heap.size) (C := #[.int .i64 0, .int .i64 0, .int .i64 0, .int .i64 0, .int .i64 0, .int .i64 0, .int .i64 0]) (cells := #[.int .i64 4, .int .i64 iop, .int .i64 (d : Nat), .int .i64 (a : Nat), .int .i64 ib, .int .i64 inn, .int .i64 ito]) (T := 57)); (case zsx => rfl); (case zsy => rfl); (case zsn => rfl); (case zsi => exact szINS); (case zs1 => rfl); (case zsb => exact (Blk.new w1 _ _).fr HFA8.out (fun h => h)); intro wI hbI hfI hsI; have HBI := hid hbI; have HFI := hid hfI; clear hbI hfI hsI) | ((with_reducible apply wpList_storeA (b := w1.heap.size + 1) (C := (standV noTh none 0).toArray) (cells := vT) (T := 45)); (case zsx => rfl); (case zsy => rfl); (case zsn => exact HSD.out.size); (case zsi => rw [HSD.out.size]; exact szTHR); (case zs1 => exact HSD.out.one); (case zsb => exact Blk.fr (by have := HBA8.out; simpa using this) HFI.out (fun e => by have e' : w1.heap.size + 1 = w1.heap.size := e; omega)); intro wT hbT hfT hsT; have HVX := hid hbT; have HIX := hid (HBI.out.fr hfT (fun e => by have e' : w1.heap.size = w1.heap.size + 1 := e; omega)); have hft : Fr (fun _ => False) w1 wT := (((show Fr (fun _ => False) w1 _ by (with_reducible repeat' (first | exact Fr.refl _ _ | apply Fr.alloc | apply Fr.drew | apply Fr.drewN | refine Fr.setCell ?_ ?_ _))).trans HFA8.out (fun _ _ h => h)).trans HFI.out (fun z hz e => by have e' : z = w1.heap.size := e; omega)).trans hfT (fun z hz e => by have e' : z = w1.heap.size + 1 := e; omega); have HFT := hid hft; have HL2 := hid (HL1.out.fr hft (fun h => h)); have c8 := (HVX.out.cell 0); have i0 := HIX.out.cell 0; have l8 := HVX.out.lt; clear hbT hfT hsT HBI HFI HBA8 HFA8 hft HL1) | ((with_reducible apply wpList_loadA (b := w1.heap.size + 1) (C := vT) (T := 45)); (case zlx => rfl); (case zlu => exact unTHR.choose_spec.1); (case zld => exact unTHR.choose_spec.2); (case zli => rw [HSD.out.size]; exact szTHR); (case zlb => exact HVX.out)) | ((with_reducible apply wpList_storeA (b := wT.heap.size) (C := (standV noTh none 0).toArray) (cells := vT) (T := 45)); (case zsx => rfl); (case zsy => rfl); (case zsn => exact HSD.out.size); (case zsi => rw [HSD.out.size]; exact szTHR); (case zs1 => exact HSD.out.one); (case zsb => exact HBA8.out); intro wU hbU hfU hsU; have HUX := hid hbU; have hfm := fr_made HFA8.out hfU (Nat.le_refl _); have HVU := hid (HVX.out.fr hfm (fun h => h)); have hiu := HIX.out.fr hfm (fun h => h); have HIU := hid hiu; have HFU := hid (HFT.out.trans hfm (fun _ _ h => h)); have HL3 := hid (HL2.out.fr hfm (fun h => h)); have p17 : wU.cell? ⟨w1.heap.size + 1, 17, none⟩ = some (.slice ta TW tc) := ((HVU.out.cell 17).trans HP17.out); have ra : wU.cell? ⟨w1.heap.size + 1, 1 + a, none⟩ = some (.int .i64 ov) := (by rw [HOV.out]; exact (HVU.out.cell (1 + a)).trans (HSD.out.regs a ha16)); have i3 := hiu.cell 3; have i5 := hiu.cell 5; have lU := HUX.out.lt; have lV := HVU.out.lt; have lI := hiu.lt; clear hbU hfU hsU HBA8 HFA8 hfm hiu HVX HIX HFT HL2 c8 i0) | still_step | (with_reducible first | refine wpStill_nil ?_ | refine Flow.Both.mk ?_ ?_ | exact True.intro) | (with_reducible refine Flow.same_mk rfl rfl rfl ?_; go_simp; done) | (with_reducible exact Flow.same_un rfl rfl rfl) | (with_reducible refine Flow.region_flow (id := 19) [0, 1, 0, 0, 12, 28, 0, 127, 255] 256 243 [(0, none), (1, none), (2, none), (3, none), (4, none), (5, none), (6, none), (7, none), (8, some [])] mixed ?hB ?_; (case hB => decide +kernel); simp only [Flow.textOf, Flow.q1, Flow.q2, Flow.q3, Flow.q4, Flow.q5, Flow.q6, Flow.q7, Flow.q8, Flow.q9, Flow.wpFl, Flow.SameAll]) | (refine Flow.region_still mixed ?hB ?_; (case hB => decide +kernel)))
      simp only [HWW.out]
      have htw : TW ≤ 1000 := by have := HTW.out; have := HTWE.out; omega
      have HO0 := hid (HO1.out.vw.fr HFU.out (fun _ _ h => h))
      go_loopw [12, 43] (fun v12 i wr => ∃ j : Nat, j ≤ TW ∧ i = .int .i64 j ∧ v12 = .bool ((T.wait.take j).any fun e => e.1 == wv) ∧ Fr (fun _ => False) wU wr) (fun _ i _ => TW - (intOf i).toNat)
      case atStart => exact ⟨0, Nat.zero_le _, rfl, by simp, Fr.refl _ _⟩
      case round =>
        obtain ⟨j, hj, rfl, rfl, hfr⟩ := hrel
        have HFR := hid hfr
        clear hfr p17
        (try clear ra)
        clear i3 i5
        by_cases hlt : j < TW
        · have hjl : j < T.wait.length := by have := HTWE.out; omega
          have hne : ent T.wait ≠ [] := fun h => by have := ent_length T.wait; rw [h] at this; simp at this; omega
          obtain ⟨r0, off0, rfl, hr0, hcell⟩ := (HO0.out.fr HFR.out (fun _ _ h => h)).cell hne
          have c1 : wr.cell? ⟨r0, off0 + j * 2, none⟩ = some (.int .i64 T.wait[j].1) := hcell (j * 2) _ (ent_get T.wait j hjl).1
          have c2 : wr.cell? ⟨r0, off0 + j * 2 + 1, none⟩ = some (.int .i64 T.wait[j].2) := hcell (j * 2 + 1) _ (ent_get T.wait j hjl).2
          have htk : (T.wait.take (j + 1)).any (fun e => e.1 == wv) = ((T.wait.take j).any (fun e => e.1 == wv) || (T.wait[j].1 == wv)) := by rw [List.take_succ_eq_append_getElem hjl, List.any_append, List.any_cons, List.any_nil, Bool.or_false]
          obtain ⟨bj, hbj⟩ : ∃ b, b = (T.wait.take j).any (fun e => e.1 == wv) := ⟨_, rfl⟩
          rw [← hbj] at htk ⊢
          clear hcell hne hbj
          generalize T.wait[j] = e at *
          obtain ⟨x, y⟩ := e
          dsimp only at c1 c2 htk
          cases bj with
          | true =>
            have HTK := hid htk
            clear htk
            go_wp2_with (first | still_step | (with_reducible first | refine wpStill_nil ?_ | refine Flow.Both.mk ?_ ?_ | exact True.intro) | (with_reducible refine Flow.same_mk rfl rfl rfl ?_; go_simp; done) | (with_reducible exact Flow.same_un rfl rfl rfl) | (with_reducible refine Flow.region_flow (id := 19) [0, 1, 0, 0, 12, 28, 0, 127, 255] 256 243 [(0, none), (1, none), (2, none), (3, none), (4, none), (5, none), (6, none), (7, none), (8, some [])] mixed ?hB ?_; (case hB => decide +kernel); simp only [Flow.textOf, Flow.q1, Flow.q2, Flow.q3, Flow.q4, Flow.q5, Flow.q6, Flow.q7, Flow.q8, Flow.q9, Flow.wpFl, Flow.SameAll]) | (refine Flow.region_still mixed ?hB ?_; (case hB => decide +kernel)))
            go_roundw
            case rel => exact ⟨j + 1, by omega, by go_num, by rw [HTK.out]; rfl, HFR.out.trans (show Fr (fun _ => False) wr _ by (with_reducible repeat' (first | exact Fr.refl _ _ | apply Fr.alloc | apply Fr.drew | apply Fr.drewN | refine Fr.setCell ?_ ?_ _))) (fun _ _ h => h)⟩
            case measure => simp [intOf]; omega
          | false =>
            by_cases hx : x = wv
            · have hx2 : (x == wv) = true := by simpa using hx
              rw [hx2] at htk
              have HTK := hid htk
              clear htk hx
              go_wp2_with (first | still_step | (with_reducible first | refine wpStill_nil ?_ | refine Flow.Both.mk ?_ ?_ | exact True.intro) | (with_reducible refine Flow.same_mk rfl rfl rfl ?_; go_simp; done) | (with_reducible exact Flow.same_un rfl rfl rfl) | (with_reducible refine Flow.region_flow (id := 19) [0, 1, 0, 0, 12, 28, 0, 127, 255] 256 243 [(0, none), (1, none), (2, none), (3, none), (4, none), (5, none), (6, none), (7, none), (8, some [])] mixed ?hB ?_; (case hB => decide +kernel); simp only [Flow.textOf, Flow.q1, Flow.q2, Flow.q3, Flow.q4, Flow.q5, Flow.q6, Flow.q7, Flow.q8, Flow.q9, Flow.wpFl, Flow.SameAll]) | (refine Flow.region_still mixed ?hB ?_; (case hB => decide +kernel)))
              go_roundw
              case rel => exact ⟨j + 1, by omega, by go_num, by rw [HTK.out]; rfl, HFR.out.trans (show Fr (fun _ => False) wr _ by (with_reducible repeat' (first | exact Fr.refl _ _ | apply Fr.alloc | apply Fr.drew | apply Fr.drewN | refine Fr.setCell ?_ ?_ _))) (fun _ _ h => h)⟩
              case measure => simp [intOf]; omega
            · have hx2 : (x == wv) = false := by simpa using hx
              rw [hx2] at htk
              have HTK := hid htk
              clear htk hx
              go_wp2_with (first | still_step | (with_reducible first | refine wpStill_nil ?_ | refine Flow.Both.mk ?_ ?_ | exact True.intro) | (with_reducible refine Flow.same_mk rfl rfl rfl ?_; go_simp; done) | (with_reducible exact Flow.same_un rfl rfl rfl) | (with_reducible refine Flow.region_flow (id := 19) [0, 1, 0, 0, 12, 28, 0, 127, 255] 256 243 [(0, none), (1, none), (2, none), (3, none), (4, none), (5, none), (6, none), (7, none), (8, some [])] mixed ?hB ?_; (case hB => decide +kernel); simp only [Flow.textOf, Flow.q1, Flow.q2, Flow.q3, Flow.q4, Flow.q5, Flow.q6, Flow.q7, Flow.q8, Flow.q9, Flow.wpFl, Flow.SameAll]) | (refine Flow.region_still mixed ?hB ?_; (case hB => decide +kernel)))
              go_roundw
              case rel => exact ⟨j + 1, by omega, by go_num, by rw [HTK.out]; rfl, HFR.out.trans (show Fr (fun _ => False) wr _ by (with_reducible repeat' (first | exact Fr.refl _ _ | apply Fr.alloc | apply Fr.drew | apply Fr.drewN | refine Fr.setCell ?_ ?_ _))) (fun _ _ h => h)⟩
              case measure => simp [intOf]; omega
        · have hall : (T.wait.take j).any (fun e => e.1 == wv) = waits T wv := by rw [List.take_of_length_le (by have := HTWE.out; omega)]; rfl
          rw [hall]
          obtain ⟨bw, hbw⟩ : ∃ b, b = waits T wv := ⟨_, rfl⟩
          have hrr := HRR.out
          rw [← hbw] at hrr ⊢
          have HF := hid (HF1.out.trans (HFU.out.trans HFR.out (fun _ _ h => h)) (fun _ _ h => h))
          have HL4 := hid (HL3.out.fr HFR.out (fun h => h))
          clear hall hbw HRR
          cases bw with
          | false =>
            rw [if_neg (fun h => by cases h.2)] at hrr
            subst hrr
            go_wp2_with (first | ((with_reducible apply wpList_storeA (b := w.heap.size) (C := #[.int .i64 0, .int .i64 0, .int .i64 0, .int .i64 0]) (T := 37)); (case zsx => rfl); (case zsy => rfl); (case zsn => rfl); (case zsi => exact szLK); (case zs1 => rfl); (case zsb => ((repeat' (first | with_reducible exact HL1.out | with_reducible exact HL2.out | with_reducible exact HL3.out | with_reducible exact HL4.out | with_reducible apply Blk.drew | with_reducible apply Blk.alloc | (with_reducible refine Blk.set_ne ?_ ?_ _))); all_goals (first | omega | (simp; omega) | (simp; done)))); intro w9 hb9 hf9 hs9; have HB9 := hid hb9; have HF9 := hid hf9; have HSZ9 := hid hs9; clear hb9 hf9 hs9) | still_step | (with_reducible first | refine wpStill_nil ?_ | refine Flow.Both.mk ?_ ?_ | exact True.intro) | (with_reducible refine Flow.same_mk rfl rfl rfl ?_; go_simp; done) | (with_reducible exact Flow.same_un rfl rfl rfl) | (with_reducible refine Flow.region_flow (id := 19) [0, 1, 0, 0, 12, 28, 0, 127, 255] 256 243 [(0, none), (1, none), (2, none), (3, none), (4, none), (5, none), (6, none), (7, none), (8, some [])] mixed ?hB ?_; (case hB => decide +kernel); simp only [Flow.textOf, Flow.q1, Flow.q2, Flow.q3, Flow.q4, Flow.q5, Flow.q6, Flow.q7, Flow.q8, Flow.q9, Flow.wpFl, Flow.SameAll]) | (refine Flow.region_still mixed ?hB ?_; (case hB => decide +kernel)))
            refine bodyPost_ret (HRES.out _ rfl _ _ _ rfl HB9.out) rfl ?_
            have hF9 : Fr (fun _ => False) w w9 := fr_weaken (by (repeat' (first | with_reducible exact HF.out | with_reducible apply Fr.alloc | with_reducible apply Fr.drew | (with_reducible refine Fr.setCell ?_ ?_ _)))) HF9.out (Nat.le_refl _)
            exact ⟨rfl, R, SR.fr ⟨B, OB, oc, ids, D, A, C, V, G, Rm, HH.out⟩ hF9 (fun _ _ h => h), Mv.of_fr hF9⟩
          | true =>
            rw [if_pos ⟨HBG.out, rfl⟩] at hrr
            have HRR := hid hrr
            have h0 := HF.out.cell (HH.out.head.cell 0) (fun h => h)
            have hxv := HVU.out.fr HFR.out (fun h => h)
            have HXV := hid hxv
            have HXI := hid (HIU.out.fr HFR.out (fun h => h))
            have HXS := hid (HUX.out.fr HFR.out (fun h => h))
            clear hrr hxv HVU HIU HUX HL3
            go_wp2_with (first | still_step | (with_reducible first | refine wpStill_nil ?_ | refine Flow.Both.mk ?_ ?_ | exact True.intro) | (with_reducible refine Flow.same_mk rfl rfl rfl ?_; go_simp; done) | (with_reducible exact Flow.same_un rfl rfl rfl) | (with_reducible refine Flow.region_flow (id := 19) [0, 1, 0, 0, 12, 28, 0, 127, 255] 256 243 [(0, none), (1, none), (2, none), (3, none), (4, none), (5, none), (6, none), (7, none), (8, some [])] mixed ?hB ?_; (case hB => decide +kernel); simp only [Flow.textOf, Flow.q1, Flow.q2, Flow.q3, Flow.q4, Flow.q5, Flow.q6, Flow.q7, Flow.q8, Flow.q9, Flow.wpFl, Flow.SameAll]) | (refine Flow.region_still mixed ?hB ?_; (case hB => decide +kernel)))
            go_at_call 42
            refine Calls.named fun wc hwc => ?_
            have hfc : Fr (fun _ => False) wr wc := by rw [hwc]; (with_reducible repeat' (first | exact Fr.refl _ _ | apply Fr.alloc | apply Fr.drew | apply Fr.drewN | refine Fr.setCell ?_ ?_ _))
            have hfw := HF.out.trans hfc (fun _ _ h => h)
            have HFC := hid hfc
            have HFW := hid hfw
            have hwq := hwc
            clear hwc hfc hfw
            refine (memory_is B Rm ids s.x wc (HH.out.mr.fr HFW.out (fun _ _ h => h)) hml).mono ?_
            rintro e w5 ⟨am, cm, rfl, ho5, hf5⟩
            have hfr5 := HFC.out.trans hf5 (fun _ _ h => h)
            have HF5 := hid (HF.out.trans hfr5 (fun _ _ h => h))
            have HX5 := hid (HXV.out.fr hfr5 (fun h => h))
            have HI5 := hid (HXI.out.fr hfr5 (fun h => h))
            have HS5 := hid (HXS.out.fr hfr5 (fun h => h))
            have HL5 := hid (HL4.out.fr hfr5 (fun h => h))
            have HFR5x := hid hfr5
            have i2 := HI5.out.cell 2
            have cD := (HX5.out.cell (1 + d)).trans (HSD.out.regs d hd16)
            have fD := HX5.out.free (1 + d)
            have p0 := (HX5.out.cell 0).trans HSD.out.place
            rw [← HTP.out] at p0
            have f0 := HX5.out.free 0
            have l5 := HX5.out.lt
            have l5i := HI5.out.lt
            have l5s := HS5.out.lt
            obtain ⟨ML, hML⟩ : ∃ ML, ML = s.x.mem.length := ⟨_, rfl⟩
            have HML := hid hML
            rw [← hML] at ho5 hml ⊢
            have HO5 := hid ho5
            have hnd : ¬ (1 + d = 0) := by omega
            have hdi : ((d : Nat) : Int) < 16 := by omega
            have hnd2 : ¬ (0 = 1 + d) := by omega
            have hnI : ¬ (w1.heap.size = w1.heap.size + 1) := by omega
            have hnI2 : ¬ (w1.heap.size + 1 = w1.heap.size) := by omega
            have hsz5 : w1.heap.size + 1 < wc.heap.size := by have := HFR.out.size; have := HFC.out.size; omega
            clear hfr5 hf5 hML ho5 HFC HFW HXV HXI HXS HL4 h0
            by_cases hw0 : 0 ≤ wv
            · by_cases hwl : wv < ML
              · obtain ⟨q, rfl⟩ : ∃ q : Nat, wv = q := ⟨wv.toNat, by omega⟩
                have hqm : q < s.x.mem.length := by have := HML.out; omega
                have hne : ints s.x.mem ≠ [] := fun h => by have := ints_length s.x.mem; rw [h] at this; simp at this; omega
                obtain ⟨mr, mo, rfl, hmr, hcell⟩ := HO5.out.vw.cell hne
                have cm := hcell q _ (ints_get s.x.mem q hqm)
                obtain ⟨mq, hmq⟩ : ∃ mq, mq = s.x.mem.getD q 0 := ⟨_, rfl⟩
                rw [← hmq] at cm
                have HMQ := hid hmq
                clear hmq
                have hmr2 : ¬ (w1.heap.size + 1 = mr) := by have h' : wc.heap.size ≤ mr := hmr; omega
                clear hcell hne hmr
                go_wp2_with (first | ((with_reducible apply wpList_loadA (b := wT.heap.size) (C := vT) (T := 45)); (case zlx => rfl); (case zlu => exact unTHR.choose_spec.1); (case zld => exact unTHR.choose_spec.2); (case zli => rw [HSD.out.size]; exact szTHR); (case zlb => (repeat (first | with_reducible exact HS5.out | with_reducible apply Blk.drew | with_reducible apply Blk.alloc | (with_reducible refine Blk.set_ne ?_ ?_ _))) <;> first | omega | (simp; omega) | (simp; done))) | ((with_reducible apply wpList_loadA (b := w1.heap.size + 1) (C := (((vT.setIfInBounds (1 + d) (.int .i64 0)).setIfInBounds (1 + d) (.int .i64 mq)).setIfInBounds 0 (.int .i64 (wrap64 (TP + 1))))) (T := 45)); (case zlx => rfl); (case zlu => exact unTHR.choose_spec.1); (case zld => exact unTHR.choose_spec.2); (case zli => simp only [Array.size_setIfInBounds]; rw [HSD.out.size]; exact szTHR); (case zlb => (repeat (first | with_reducible exact HX5.out | with_reducible apply Blk.drew | with_reducible apply Blk.alloc | with_reducible apply Blk.set | (with_reducible refine Blk.set_ne ?_ ?_ _))) <;> first | omega | (simp; omega) | (simp; done))) | still_step | (with_reducible first | refine wpStill_nil ?_ | refine Flow.Both.mk ?_ ?_ | exact True.intro) | (with_reducible refine Flow.same_mk rfl rfl rfl ?_; go_simp; done) | (with_reducible exact Flow.same_un rfl rfl rfl) | (with_reducible refine Flow.region_flow (id := 19) [0, 1, 0, 0, 12, 28, 0, 127, 255] 256 243 [(0, none), (1, none), (2, none), (3, none), (4, none), (5, none), (6, none), (7, none), (8, some [])] mixed ?hB ?_; (case hB => decide +kernel); simp only [Flow.textOf, Flow.q1, Flow.q2, Flow.q3, Flow.q4, Flow.q5, Flow.q6, Flow.q7, Flow.q8, Flow.q9, Flow.wpFl, Flow.SameAll]) | (refine Flow.region_still mixed ?hB ?_; (case hB => decide +kernel)))
                go_at_call 60
                refine Calls.named fun w6 hw6 => ?_
                have hf56 : Fr (fun z => z = w1.heap.size + 1) w5 w6 := by rw [hw6]; (repeat' (first | with_reducible exact Fr.refl _ _ | with_reducible apply Fr.drew | with_reducible apply Fr.alloc | (with_reducible refine Fr.setCell ?_ (fun _ => ?_) _))) <;> rfl
                have hf16 : Fr (fun _ => False) w1 w6 := ((HFU.out.trans HFR.out (fun _ _ h => h)).trans (HFR5x.out) (fun _ _ h => h)).trans hf56 (fun z hz e => by omega)
                have hf6 := HF1.out.trans hf16 (fun _ _ h => h)
                obtain ⟨U, hU⟩ : ∃ U : Th, U = { T with regs := T.regs.set d (mq), place := wrap64 (TP + 1) } := ⟨_, rfl⟩
                have hU16 : U.regs.length = 16 := by rw [hU]; simp [HT16.out]
                have hUw : U.wait = T.wait := by rw [hU]
                have hei := end_is (HH.out.fr hf6 (fun _ _ h => h)) HGO.out T U ta ta tc tc _ HT16.out hU16 (by rw [hUw]; exact HO1.out.vw.fr hf16 (fun _ _ h => h)) (fun z hz hr => by have := HH.out.lt z hr; have := hz.1; omega) hln (by rw [hUw]; have := HTW.out; omega)
                rw [← HVT.out, show (standV U ta tc).toArray = (vT.setIfInBounds (1 + d) (.int .i64 (mq))).setIfInBounds 0 (.int .i64 (wrap64 (TP + 1))) from by rw [hU, HVT.out]; exact stand_pass0 T ta tc d _ _ HT16.out hd16] at hei
                refine hei.mono ?_
                rintro e w7 ⟨rfl, R7, hm7, hv7⟩
                have hlw := HL5.out.lt
                have HL4 := hid ((HL5.out.fr hf56 (fun e => by have e' : w.heap.size = w1.heap.size + 1 := e; omega)).fr hv7.2.2 (fun hr => by have := HH.out.lt _ hr; omega))
                have HNR := hid (show ¬ R7 w.heap.size from fun hr => by
                  rcases hv7.2.1 _ hr with h' | h'
                  · have := HH.out.lt _ h'; omega
                  · have := hf16.size; omega)
                have l7 := HL4.out.lt
                have HM7 := hid hm7
                have HV7 := hid ((Mv.of_fr (R := R) hf6).trans hv7)
                have HUE := hid hU
                clear hf56 hf16 hf6 hei hm7 hv7 hw6 hU hU16 hUw HL5 HX5 HS5 HI5 i2 cD fD p0 f0
                (try clear cm)
                go_wp2_with (first | ((with_reducible apply wpList_storeA (b := w.heap.size) (C := #[.int .i64 0, .int .i64 0, .int .i64 0, .int .i64 0]) (T := 37)); (case zsx => rfl); (case zsy => rfl); (case zsn => rfl); (case zsi => exact szLK); (case zs1 => rfl); (case zsb => ((repeat' (first | with_reducible exact HL1.out | with_reducible exact HL2.out | with_reducible exact HL3.out | with_reducible exact HL4.out | with_reducible apply Blk.drew | with_reducible apply Blk.alloc | (with_reducible refine Blk.set_ne ?_ ?_ _))); all_goals (first | omega | (simp; omega) | (simp; done)))); intro w9 hb9 hf9 hs9; have HB9 := hid hb9; have HF9 := hid hf9; have HSZ9 := hid hs9; clear hb9 hf9 hs9) | still_step | (with_reducible first | refine wpStill_nil ?_ | refine Flow.Both.mk ?_ ?_ | exact True.intro) | (with_reducible refine Flow.same_mk rfl rfl rfl ?_; go_simp; done) | (with_reducible exact Flow.same_un rfl rfl rfl) | (with_reducible refine Flow.region_flow (id := 19) [0, 1, 0, 0, 12, 28, 0, 127, 255] 256 243 [(0, none), (1, none), (2, none), (3, none), (4, none), (5, none), (6, none), (7, none), (8, some [])] mixed ?hB ?_; (case hB => decide +kernel); simp only [Flow.textOf, Flow.q1, Flow.q2, Flow.q3, Flow.q4, Flow.q5, Flow.q6, Flow.q7, Flow.q8, Flow.q9, Flow.wpFl, Flow.SameAll]) | (refine Flow.region_still mixed ?hB ?_; (case hB => decide +kernel)))
                refine bodyPost_ret (HRES.out _ rfl _ _ _ rfl HB9.out) rfl ?_
                have hF9 : Fr (fun z => z = w.heap.size) w7 w9 := by first | exact HF9.out | exact (Fr.refl _ _).drew.trans HF9.out (fun _ _ h => h)
                have hmr := HM7.out.fr hF9 (fun z hz e => by subst e; exact HNR.out hz)
                have hmv : Mv R R7 w w9 := ⟨HV7.out.1, HV7.out.2.1, HV7.out.2.2.trans hF9 (fun z hz e => by omega)⟩
                rw [HRR.out]
                have hpass : passed s.x T ⟨4, iop, d, ((a : Nat) : Int), ib, inn, ito⟩ = U := by
                  unfold passed
                  rw [HUE.out, ← HWV.out]
                  unfold memAt
                  rw [if_pos ⟨by omega, by omega⟩, ← HTP.out, HMQ.out]
                  simp [hqm]
                rw [hpass]
                exact ⟨rfl, R7, hmr, hmv⟩
              · have hma : (memAt s.x.mem wv).getD 0 = 0 := by unfold memAt; rw [if_neg (by have := HML.out; omega)]; rfl
                have HMA := hid hma
                clear hma
                go_wp2_with (first | ((with_reducible apply wpList_loadA (b := wT.heap.size) (C := vT) (T := 45)); (case zlx => rfl); (case zlu => exact unTHR.choose_spec.1); (case zld => exact unTHR.choose_spec.2); (case zli => rw [HSD.out.size]; exact szTHR); (case zlb => (repeat (first | with_reducible exact HS5.out | with_reducible apply Blk.drew | with_reducible apply Blk.alloc | (with_reducible refine Blk.set_ne ?_ ?_ _))) <;> first | omega | (simp; omega) | (simp; done))) | ((with_reducible apply wpList_loadA (b := w1.heap.size + 1) (C := ((vT.setIfInBounds (1 + d) (.int .i64 0)).setIfInBounds 0 (.int .i64 (wrap64 (TP + 1))))) (T := 45)); (case zlx => rfl); (case zlu => exact unTHR.choose_spec.1); (case zld => exact unTHR.choose_spec.2); (case zli => simp only [Array.size_setIfInBounds]; rw [HSD.out.size]; exact szTHR); (case zlb => (repeat (first | with_reducible exact HX5.out | with_reducible apply Blk.drew | with_reducible apply Blk.alloc | with_reducible apply Blk.set | (with_reducible refine Blk.set_ne ?_ ?_ _))) <;> first | omega | (simp; omega) | (simp; done))) | still_step | (with_reducible first | refine wpStill_nil ?_ | refine Flow.Both.mk ?_ ?_ | exact True.intro) | (with_reducible refine Flow.same_mk rfl rfl rfl ?_; go_simp; done) | (with_reducible exact Flow.same_un rfl rfl rfl) | (with_reducible refine Flow.region_flow (id := 19) [0, 1, 0, 0, 12, 28, 0, 127, 255] 256 243 [(0, none), (1, none), (2, none), (3, none), (4, none), (5, none), (6, none), (7, none), (8, some [])] mixed ?hB ?_; (case hB => decide +kernel); simp only [Flow.textOf, Flow.q1, Flow.q2, Flow.q3, Flow.q4, Flow.q5, Flow.q6, Flow.q7, Flow.q8, Flow.q9, Flow.wpFl, Flow.SameAll]) | (refine Flow.region_still mixed ?hB ?_; (case hB => decide +kernel)))
                go_at_call 60
                refine Calls.named fun w6 hw6 => ?_
                have hf56 : Fr (fun z => z = w1.heap.size + 1) w5 w6 := by rw [hw6]; (repeat' (first | with_reducible exact Fr.refl _ _ | with_reducible apply Fr.drew | with_reducible apply Fr.alloc | (with_reducible refine Fr.setCell ?_ (fun _ => ?_) _))) <;> rfl
                have hf16 : Fr (fun _ => False) w1 w6 := ((HFU.out.trans HFR.out (fun _ _ h => h)).trans (HFR5x.out) (fun _ _ h => h)).trans hf56 (fun z hz e => by omega)
                have hf6 := HF1.out.trans hf16 (fun _ _ h => h)
                obtain ⟨U, hU⟩ : ∃ U : Th, U = { T with regs := T.regs.set d (0), place := wrap64 (TP + 1) } := ⟨_, rfl⟩
                have hU16 : U.regs.length = 16 := by rw [hU]; simp [HT16.out]
                have hUw : U.wait = T.wait := by rw [hU]
                have hei := end_is (HH.out.fr hf6 (fun _ _ h => h)) HGO.out T U ta ta tc tc _ HT16.out hU16 (by rw [hUw]; exact HO1.out.vw.fr hf16 (fun _ _ h => h)) (fun z hz hr => by have := HH.out.lt z hr; have := hz.1; omega) hln (by rw [hUw]; have := HTW.out; omega)
                rw [← HVT.out, show (standV U ta tc).toArray = (vT.setIfInBounds (1 + d) (.int .i64 (0))).setIfInBounds 0 (.int .i64 (wrap64 (TP + 1))) from by rw [hU, HVT.out]; exact stand_pass0 T ta tc d _ _ HT16.out hd16] at hei
                refine hei.mono ?_
                rintro e w7 ⟨rfl, R7, hm7, hv7⟩
                have hlw := HL5.out.lt
                have HL4 := hid ((HL5.out.fr hf56 (fun e => by have e' : w.heap.size = w1.heap.size + 1 := e; omega)).fr hv7.2.2 (fun hr => by have := HH.out.lt _ hr; omega))
                have HNR := hid (show ¬ R7 w.heap.size from fun hr => by
                  rcases hv7.2.1 _ hr with h' | h'
                  · have := HH.out.lt _ h'; omega
                  · have := hf16.size; omega)
                have l7 := HL4.out.lt
                have HM7 := hid hm7
                have HV7 := hid ((Mv.of_fr (R := R) hf6).trans hv7)
                have HUE := hid hU
                clear hf56 hf16 hf6 hei hm7 hv7 hw6 hU hU16 hUw HL5 HX5 HS5 HI5 i2 cD fD p0 f0
                (try clear cm)
                go_wp2_with (first | ((with_reducible apply wpList_storeA (b := w.heap.size) (C := #[.int .i64 0, .int .i64 0, .int .i64 0, .int .i64 0]) (T := 37)); (case zsx => rfl); (case zsy => rfl); (case zsn => rfl); (case zsi => exact szLK); (case zs1 => rfl); (case zsb => ((repeat' (first | with_reducible exact HL1.out | with_reducible exact HL2.out | with_reducible exact HL3.out | with_reducible exact HL4.out | with_reducible apply Blk.drew | with_reducible apply Blk.alloc | (with_reducible refine Blk.set_ne ?_ ?_ _))); all_goals (first | omega | (simp; omega) | (simp; done)))); intro w9 hb9 hf9 hs9; have HB9 := hid hb9; have HF9 := hid hf9; have HSZ9 := hid hs9; clear hb9 hf9 hs9) | still_step | (with_reducible first | refine wpStill_nil ?_ | refine Flow.Both.mk ?_ ?_ | exact True.intro) | (with_reducible refine Flow.same_mk rfl rfl rfl ?_; go_simp; done) | (with_reducible exact Flow.same_un rfl rfl rfl) | (with_reducible refine Flow.region_flow (id := 19) [0, 1, 0, 0, 12, 28, 0, 127, 255] 256 243 [(0, none), (1, none), (2, none), (3, none), (4, none), (5, none), (6, none), (7, none), (8, some [])] mixed ?hB ?_; (case hB => decide +kernel); simp only [Flow.textOf, Flow.q1, Flow.q2, Flow.q3, Flow.q4, Flow.q5, Flow.q6, Flow.q7, Flow.q8, Flow.q9, Flow.wpFl, Flow.SameAll]) | (refine Flow.region_still mixed ?hB ?_; (case hB => decide +kernel)))
                refine bodyPost_ret (HRES.out _ rfl _ _ _ rfl HB9.out) rfl ?_
                have hF9 : Fr (fun z => z = w.heap.size) w7 w9 := by first | exact HF9.out | exact (Fr.refl _ _).drew.trans HF9.out (fun _ _ h => h)
                have hmr := HM7.out.fr hF9 (fun z hz e => by subst e; exact HNR.out hz)
                have hmv : Mv R R7 w w9 := ⟨HV7.out.1, HV7.out.2.1, HV7.out.2.2.trans hF9 (fun z hz e => by omega)⟩
                rw [HRR.out]
                have hpass : passed s.x T ⟨4, iop, d, ((a : Nat) : Int), ib, inn, ito⟩ = U := by
                  unfold passed
                  rw [HUE.out, ← HWV.out, HMA.out, ← HTP.out]
                  simp
                rw [hpass]
                exact ⟨rfl, R7, hmr, hmv⟩
            · have hma : (memAt s.x.mem wv).getD 0 = 0 := by unfold memAt; rw [if_neg (by omega)]; rfl
              have HMA := hid hma
              clear hma
              go_wp2_with (first | ((with_reducible apply wpList_loadA (b := wT.heap.size) (C := vT) (T := 45)); (case zlx => rfl); (case zlu => exact unTHR.choose_spec.1); (case zld => exact unTHR.choose_spec.2); (case zli => rw [HSD.out.size]; exact szTHR); (case zlb => (repeat (first | with_reducible exact HS5.out | with_reducible apply Blk.drew | with_reducible apply Blk.alloc | (with_reducible refine Blk.set_ne ?_ ?_ _))) <;> first | omega | (simp; omega) | (simp; done))) | ((with_reducible apply wpList_loadA (b := w1.heap.size + 1) (C := ((vT.setIfInBounds (1 + d) (.int .i64 0)).setIfInBounds 0 (.int .i64 (wrap64 (TP + 1))))) (T := 45)); (case zlx => rfl); (case zlu => exact unTHR.choose_spec.1); (case zld => exact unTHR.choose_spec.2); (case zli => simp only [Array.size_setIfInBounds]; rw [HSD.out.size]; exact szTHR); (case zlb => (repeat (first | with_reducible exact HX5.out | with_reducible apply Blk.drew | with_reducible apply Blk.alloc | with_reducible apply Blk.set | (with_reducible refine Blk.set_ne ?_ ?_ _))) <;> first | omega | (simp; omega) | (simp; done))) | still_step | (with_reducible first | refine wpStill_nil ?_ | refine Flow.Both.mk ?_ ?_ | exact True.intro) | (with_reducible refine Flow.same_mk rfl rfl rfl ?_; go_simp; done) | (with_reducible exact Flow.same_un rfl rfl rfl) | (with_reducible refine Flow.region_flow (id := 19) [0, 1, 0, 0, 12, 28, 0, 127, 255] 256 243 [(0, none), (1, none), (2, none), (3, none), (4, none), (5, none), (6, none), (7, none), (8, some [])] mixed ?hB ?_; (case hB => decide +kernel); simp only [Flow.textOf, Flow.q1, Flow.q2, Flow.q3, Flow.q4, Flow.q5, Flow.q6, Flow.q7, Flow.q8, Flow.q9, Flow.wpFl, Flow.SameAll]) | (refine Flow.region_still mixed ?hB ?_; (case hB => decide +kernel)))
              go_at_call 60
              refine Calls.named fun w6 hw6 => ?_
              have hf56 : Fr (fun z => z = w1.heap.size + 1) w5 w6 := by rw [hw6]; (repeat' (first | with_reducible exact Fr.refl _ _ | with_reducible apply Fr.drew | with_reducible apply Fr.alloc | (with_reducible refine Fr.setCell ?_ (fun _ => ?_) _))) <;> rfl
              have hf16 : Fr (fun _ => False) w1 w6 := ((HFU.out.trans HFR.out (fun _ _ h => h)).trans (HFR5x.out) (fun _ _ h => h)).trans hf56 (fun z hz e => by omega)
              have hf6 := HF1.out.trans hf16 (fun _ _ h => h)
              obtain ⟨U, hU⟩ : ∃ U : Th, U = { T with regs := T.regs.set d (0), place := wrap64 (TP + 1) } := ⟨_, rfl⟩
              have hU16 : U.regs.length = 16 := by rw [hU]; simp [HT16.out]
              have hUw : U.wait = T.wait := by rw [hU]
              have hei := end_is (HH.out.fr hf6 (fun _ _ h => h)) HGO.out T U ta ta tc tc _ HT16.out hU16 (by rw [hUw]; exact HO1.out.vw.fr hf16 (fun _ _ h => h)) (fun z hz hr => by have := HH.out.lt z hr; have := hz.1; omega) hln (by rw [hUw]; have := HTW.out; omega)
              rw [← HVT.out, show (standV U ta tc).toArray = (vT.setIfInBounds (1 + d) (.int .i64 (0))).setIfInBounds 0 (.int .i64 (wrap64 (TP + 1))) from by rw [hU, HVT.out]; exact stand_pass0 T ta tc d _ _ HT16.out hd16] at hei
              refine hei.mono ?_
              rintro e w7 ⟨rfl, R7, hm7, hv7⟩
              have hlw := HL5.out.lt
              have HL4 := hid ((HL5.out.fr hf56 (fun e => by have e' : w.heap.size = w1.heap.size + 1 := e; omega)).fr hv7.2.2 (fun hr => by have := HH.out.lt _ hr; omega))
              have HNR := hid (show ¬ R7 w.heap.size from fun hr => by
                rcases hv7.2.1 _ hr with h' | h'
                · have := HH.out.lt _ h'; omega
                · have := hf16.size; omega)
              have l7 := HL4.out.lt
              have HM7 := hid hm7
              have HV7 := hid ((Mv.of_fr (R := R) hf6).trans hv7)
              have HUE := hid hU
              clear hf56 hf16 hf6 hei hm7 hv7 hw6 hU hU16 hUw HL5 HX5 HS5 HI5 i2 cD fD p0 f0
              (try clear cm)
              go_wp2_with (first | ((with_reducible apply wpList_storeA (b := w.heap.size) (C := #[.int .i64 0, .int .i64 0, .int .i64 0, .int .i64 0]) (T := 37)); (case zsx => rfl); (case zsy => rfl); (case zsn => rfl); (case zsi => exact szLK); (case zs1 => rfl); (case zsb => ((repeat' (first | with_reducible exact HL1.out | with_reducible exact HL2.out | with_reducible exact HL3.out | with_reducible exact HL4.out | with_reducible apply Blk.drew | with_reducible apply Blk.alloc | (with_reducible refine Blk.set_ne ?_ ?_ _))); all_goals (first | omega | (simp; omega) | (simp; done)))); intro w9 hb9 hf9 hs9; have HB9 := hid hb9; have HF9 := hid hf9; have HSZ9 := hid hs9; clear hb9 hf9 hs9) | still_step | (with_reducible first | refine wpStill_nil ?_ | refine Flow.Both.mk ?_ ?_ | exact True.intro) | (with_reducible refine Flow.same_mk rfl rfl rfl ?_; go_simp; done) | (with_reducible exact Flow.same_un rfl rfl rfl) | (with_reducible refine Flow.region_flow (id := 19) [0, 1, 0, 0, 12, 28, 0, 127, 255] 256 243 [(0, none), (1, none), (2, none), (3, none), (4, none), (5, none), (6, none), (7, none), (8, some [])] mixed ?hB ?_; (case hB => decide +kernel); simp only [Flow.textOf, Flow.q1, Flow.q2, Flow.q3, Flow.q4, Flow.q5, Flow.q6, Flow.q7, Flow.q8, Flow.q9, Flow.wpFl, Flow.SameAll]) | (refine Flow.region_still mixed ?hB ?_; (case hB => decide +kernel)))
              refine bodyPost_ret (HRES.out _ rfl _ _ _ rfl HB9.out) rfl ?_
              have hF9 : Fr (fun z => z = w.heap.size) w7 w9 := by first | exact HF9.out | exact (Fr.refl _ _).drew.trans HF9.out (fun _ _ h => h)
              have hmr := HM7.out.fr hF9 (fun z hz e => by subst e; exact HNR.out hz)
              have hmv : Mv R R7 w w9 := ⟨HV7.out.1, HV7.out.2.1, HV7.out.2.2.trans hF9 (fun z hz e => by omega)⟩
              rw [HRR.out]
              have hpass : passed s.x T ⟨4, iop, d, ((a : Nat) : Int), ib, inn, ito⟩ = U := by
                unfold passed
                rw [HUE.out, ← HWV.out, HMA.out, ← HTP.out]
                simp
              rw [hpass]
              exact ⟨rfl, R7, hmr, hmv⟩
    · have hww : inn = wv := by
        rw [HWV.out]
        unfold Th.word
        dsimp only
        rw [if_pos (by omega)]
      have HWW := hid hww
      clear qa qb hww
      go_wp2_with (first | ((with_reducible apply wpList_allocA (ty := 45) (standV noTh none 0).toArray); (case zai => exact zTHR2); (case zac => rfl); intro wA8 hbA hfA hsA; have HBA8 := hid hbA; have HFA8 := hid hfA; clear hbA hfA hsA) | ((with_reducible apply wpList_storeA (b := w1.heap.size) (C := #[.int .i64 0, .int .i64 0, .int .i64 0, .int .i64 0, .int .i64 0, .int .i64 0, .int .i64 0]) (cells := #[.int .i64 4, .int .i64 iop, .int .i64 (d : Nat), .int .i64 ia, .int .i64 ib, .int .i64 inn, .int .i64 ito]) (T := 57)); (case zsx => rfl); (case zsy => rfl); (case zsn => rfl); (case zsi => exact szINS); (case zs1 => rfl); (case zsb => exact (Blk.new w1 _ _).fr HFA8.out (fun h => h)); intro wI hbI hfI hsI; have HBI := hid hbI; have HFI := hid hfI; clear hbI hfI hsI) | ((with_reducible apply wpList_storeA (b := w1.heap.size + 1) (C := (standV noTh none 0).toArray) (cells := vT) (T := 45)); (case zsx => rfl); (case zsy => rfl); (case zsn => exact HSD.out.size); (case zsi => rw [HSD.out.size]; exact szTHR); (case zs1 => exact HSD.out.one); (case zsb => exact Blk.fr (by have := HBA8.out; simpa using this) HFI.out (fun e => by have e' : w1.heap.size + 1 = w1.heap.size := e; omega)); intro wT hbT hfT hsT; have HVX := hid hbT; have HIX := hid (HBI.out.fr hfT (fun e => by have e' : w1.heap.size = w1.heap.size + 1 := e; omega)); have hft : Fr (fun _ => False) w1 wT := (((show Fr (fun _ => False) w1 _ by (with_reducible repeat' (first | exact Fr.refl _ _ | apply Fr.alloc | apply Fr.drew | apply Fr.drewN | refine Fr.setCell ?_ ?_ _))).trans HFA8.out (fun _ _ h => h)).trans HFI.out (fun z hz e => by have e' : z = w1.heap.size := e; omega)).trans hfT (fun z hz e => by have e' : z = w1.heap.size + 1 := e; omega); have HFT := hid hft; have HL2 := hid (HL1.out.fr hft (fun h => h)); have c8 := (HVX.out.cell 0); have i0 := HIX.out.cell 0; have l8 := HVX.out.lt; clear hbT hfT hsT HBI HFI HBA8 HFA8 hft HL1) | ((with_reducible apply wpList_loadA (b := w1.heap.size + 1) (C := vT) (T := 45)); (case zlx => rfl); (case zlu => exact unTHR.choose_spec.1); (case zld => exact unTHR.choose_spec.2); (case zli => rw [HSD.out.size]; exact szTHR); (case zlb => exact HVX.out)) | ((with_reducible apply wpList_storeA (b := wT.heap.size) (C := (standV noTh none 0).toArray) (cells := vT) (T := 45)); (case zsx => rfl); (case zsy => rfl); (case zsn => exact HSD.out.size); (case zsi => rw [HSD.out.size]; exact szTHR); (case zs1 => exact HSD.out.one); (case zsb => exact HBA8.out); intro wU hbU hfU hsU; have HUX := hid hbU; have hfm := fr_made HFA8.out hfU (Nat.le_refl _); have HVU := hid (HVX.out.fr hfm (fun h => h)); have hiu := HIX.out.fr hfm (fun h => h); have HIU := hid hiu; have HFU := hid (HFT.out.trans hfm (fun _ _ h => h)); have HL3 := hid (HL2.out.fr hfm (fun h => h)); have p17 : wU.cell? ⟨w1.heap.size + 1, 17, none⟩ = some (.slice ta TW tc) := ((HVU.out.cell 17).trans HP17.out); have i3 := hiu.cell 3; have i5 := hiu.cell 5; have lU := HUX.out.lt; have lV := HVU.out.lt; have lI := hiu.lt; clear hbU hfU hsU HBA8 HFA8 hfm hiu HVX HIX HFT HL2 c8 i0) | still_step | (with_reducible first | refine wpStill_nil ?_ | refine Flow.Both.mk ?_ ?_ | exact True.intro) | (with_reducible refine Flow.same_mk rfl rfl rfl ?_; go_simp; done) | (with_reducible exact Flow.same_un rfl rfl rfl) | (with_reducible refine Flow.region_flow (id := 19) [0, 1, 0, 0, 12, 28, 0, 127, 255] 256 243 [(0, none), (1, none), (2, none), (3, none), (4, none), (5, none), (6, none), (7, none), (8, some [])] mixed ?hB ?_; (case hB => decide +kernel); simp only [Flow.textOf, Flow.q1, Flow.q2, Flow.q3, Flow.q4, Flow.q5, Flow.q6, Flow.q7, Flow.q8, Flow.q9, Flow.wpFl, Flow.SameAll]) | (refine Flow.region_still mixed ?hB ?_; (case hB => decide +kernel)))
      simp only [HWW.out]
      have htw : TW ≤ 1000 := by have := HTW.out; have := HTWE.out; omega
      have HO0 := hid (HO1.out.vw.fr HFU.out (fun _ _ h => h))
      go_loopw [12, 43] (fun v12 i wr => ∃ j : Nat, j ≤ TW ∧ i = .int .i64 j ∧ v12 = .bool ((T.wait.take j).any fun e => e.1 == wv) ∧ Fr (fun _ => False) wU wr) (fun _ i _ => TW - (intOf i).toNat)
      case atStart => exact ⟨0, Nat.zero_le _, rfl, by simp, Fr.refl _ _⟩
      case round =>
        obtain ⟨j, hj, rfl, rfl, hfr⟩ := hrel
        have HFR := hid hfr
        clear hfr p17
        (try clear ra)
        clear i3 i5
        by_cases hlt : j < TW
        · have hjl : j < T.wait.length := by have := HTWE.out; omega
          have hne : ent T.wait ≠ [] := fun h => by have := ent_length T.wait; rw [h] at this; simp at this; omega
          obtain ⟨r0, off0, rfl, hr0, hcell⟩ := (HO0.out.fr HFR.out (fun _ _ h => h)).cell hne
          have c1 : wr.cell? ⟨r0, off0 + j * 2, none⟩ = some (.int .i64 T.wait[j].1) := hcell (j * 2) _ (ent_get T.wait j hjl).1
          have c2 : wr.cell? ⟨r0, off0 + j * 2 + 1, none⟩ = some (.int .i64 T.wait[j].2) := hcell (j * 2 + 1) _ (ent_get T.wait j hjl).2
          have htk : (T.wait.take (j + 1)).any (fun e => e.1 == wv) = ((T.wait.take j).any (fun e => e.1 == wv) || (T.wait[j].1 == wv)) := by rw [List.take_succ_eq_append_getElem hjl, List.any_append, List.any_cons, List.any_nil, Bool.or_false]
          obtain ⟨bj, hbj⟩ : ∃ b, b = (T.wait.take j).any (fun e => e.1 == wv) := ⟨_, rfl⟩
          rw [← hbj] at htk ⊢
          clear hcell hne hbj
          generalize T.wait[j] = e at *
          obtain ⟨x, y⟩ := e
          dsimp only at c1 c2 htk
          cases bj with
          | true =>
            have HTK := hid htk
            clear htk
            go_wp2_with (first | still_step | (with_reducible first | refine wpStill_nil ?_ | refine Flow.Both.mk ?_ ?_ | exact True.intro) | (with_reducible refine Flow.same_mk rfl rfl rfl ?_; go_simp; done) | (with_reducible exact Flow.same_un rfl rfl rfl) | (with_reducible refine Flow.region_flow (id := 19) [0, 1, 0, 0, 12, 28, 0, 127, 255] 256 243 [(0, none), (1, none), (2, none), (3, none), (4, none), (5, none), (6, none), (7, none), (8, some [])] mixed ?hB ?_; (case hB => decide +kernel); simp only [Flow.textOf, Flow.q1, Flow.q2, Flow.q3, Flow.q4, Flow.q5, Flow.q6, Flow.q7, Flow.q8, Flow.q9, Flow.wpFl, Flow.SameAll]) | (refine Flow.region_still mixed ?hB ?_; (case hB => decide +kernel)))
            go_roundw
            case rel => exact ⟨j + 1, by omega, by go_num, by rw [HTK.out]; rfl, HFR.out.trans (show Fr (fun _ => False) wr _ by (with_reducible repeat' (first | exact Fr.refl _ _ | apply Fr.alloc | apply Fr.drew | apply Fr.drewN | refine Fr.setCell ?_ ?_ _))) (fun _ _ h => h)⟩
            case measure => simp [intOf]; omega
          | false =>
            by_cases hx : x = wv
            · have hx2 : (x == wv) = true := by simpa using hx
              rw [hx2] at htk
              have HTK := hid htk
              clear htk hx
              go_wp2_with (first | still_step | (with_reducible first | refine wpStill_nil ?_ | refine Flow.Both.mk ?_ ?_ | exact True.intro) | (with_reducible refine Flow.same_mk rfl rfl rfl ?_; go_simp; done) | (with_reducible exact Flow.same_un rfl rfl rfl) | (with_reducible refine Flow.region_flow (id := 19) [0, 1, 0, 0, 12, 28, 0, 127, 255] 256 243 [(0, none), (1, none), (2, none), (3, none), (4, none), (5, none), (6, none), (7, none), (8, some [])] mixed ?hB ?_; (case hB => decide +kernel); simp only [Flow.textOf, Flow.q1, Flow.q2, Flow.q3, Flow.q4, Flow.q5, Flow.q6, Flow.q7, Flow.q8, Flow.q9, Flow.wpFl, Flow.SameAll]) | (refine Flow.region_still mixed ?hB ?_; (case hB => decide +kernel)))
              go_roundw
              case rel => exact ⟨j + 1, by omega, by go_num, by rw [HTK.out]; rfl, HFR.out.trans (show Fr (fun _ => False) wr _ by (with_reducible repeat' (first | exact Fr.refl _ _ | apply Fr.alloc | apply Fr.drew | apply Fr.drewN | refine Fr.setCell ?_ ?_ _))) (fun _ _ h => h)⟩
              case measure => simp [intOf]; omega
            · have hx2 : (x == wv) = false := by simpa using hx
              rw [hx2] at htk
              have HTK := hid htk
              clear htk hx
              go_wp2_with (first | still_step | (with_reducible first | refine wpStill_nil ?_ | refine Flow.Both.mk ?_ ?_ | exact True.intro) | (with_reducible refine Flow.same_mk rfl rfl rfl ?_; go_simp; done) | (with_reducible exact Flow.same_un rfl rfl rfl) | (with_reducible refine Flow.region_flow (id := 19) [0, 1, 0, 0, 12, 28, 0, 127, 255] 256 243 [(0, none), (1, none), (2, none), (3, none), (4, none), (5, none), (6, none), (7, none), (8, some [])] mixed ?hB ?_; (case hB => decide +kernel); simp only [Flow.textOf, Flow.q1, Flow.q2, Flow.q3, Flow.q4, Flow.q5, Flow.q6, Flow.q7, Flow.q8, Flow.q9, Flow.wpFl, Flow.SameAll]) | (refine Flow.region_still mixed ?hB ?_; (case hB => decide +kernel)))
              go_roundw
              case rel => exact ⟨j + 1, by omega, by go_num, by rw [HTK.out]; rfl, HFR.out.trans (show Fr (fun _ => False) wr _ by (with_reducible repeat' (first | exact Fr.refl _ _ | apply Fr.alloc | apply Fr.drew | apply Fr.drewN | refine Fr.setCell ?_ ?_ _))) (fun _ _ h => h)⟩
              case measure => simp [intOf]; omega
        · have hall : (T.wait.take j).any (fun e => e.1 == wv) = waits T wv := by rw [List.take_of_length_le (by have := HTWE.out; omega)]; rfl
          rw [hall]
          obtain ⟨bw, hbw⟩ : ∃ b, b = waits T wv := ⟨_, rfl⟩
          have hrr := HRR.out
          rw [← hbw] at hrr ⊢
          have HF := hid (HF1.out.trans (HFU.out.trans HFR.out (fun _ _ h => h)) (fun _ _ h => h))
          have HL4 := hid (HL3.out.fr HFR.out (fun h => h))
          clear hall hbw HRR
          cases bw with
          | false =>
            rw [if_neg (fun h => by cases h.2)] at hrr
            subst hrr
            go_wp2_with (first | ((with_reducible apply wpList_storeA (b := w.heap.size) (C := #[.int .i64 0, .int .i64 0, .int .i64 0, .int .i64 0]) (T := 37)); (case zsx => rfl); (case zsy => rfl); (case zsn => rfl); (case zsi => exact szLK); (case zs1 => rfl); (case zsb => ((repeat' (first | with_reducible exact HL1.out | with_reducible exact HL2.out | with_reducible exact HL3.out | with_reducible exact HL4.out | with_reducible apply Blk.drew | with_reducible apply Blk.alloc | (with_reducible refine Blk.set_ne ?_ ?_ _))); all_goals (first | omega | (simp; omega) | (simp; done)))); intro w9 hb9 hf9 hs9; have HB9 := hid hb9; have HF9 := hid hf9; have HSZ9 := hid hs9; clear hb9 hf9 hs9) | still_step | (with_reducible first | refine wpStill_nil ?_ | refine Flow.Both.mk ?_ ?_ | exact True.intro) | (with_reducible refine Flow.same_mk rfl rfl rfl ?_; go_simp; done) | (with_reducible exact Flow.same_un rfl rfl rfl) | (with_reducible refine Flow.region_flow (id := 19) [0, 1, 0, 0, 12, 28, 0, 127, 255] 256 243 [(0, none), (1, none), (2, none), (3, none), (4, none), (5, none), (6, none), (7, none), (8, some [])] mixed ?hB ?_; (case hB => decide +kernel); simp only [Flow.textOf, Flow.q1, Flow.q2, Flow.q3, Flow.q4, Flow.q5, Flow.q6, Flow.q7, Flow.q8, Flow.q9, Flow.wpFl, Flow.SameAll]) | (refine Flow.region_still mixed ?hB ?_; (case hB => decide +kernel)))
            refine bodyPost_ret (HRES.out _ rfl _ _ _ rfl HB9.out) rfl ?_
            have hF9 : Fr (fun _ => False) w w9 := fr_weaken (by (repeat' (first | with_reducible exact HF.out | with_reducible apply Fr.alloc | with_reducible apply Fr.drew | (with_reducible refine Fr.setCell ?_ ?_ _)))) HF9.out (Nat.le_refl _)
            exact ⟨rfl, R, SR.fr ⟨B, OB, oc, ids, D, A, C, V, G, Rm, HH.out⟩ hF9 (fun _ _ h => h), Mv.of_fr hF9⟩
          | true =>
            rw [if_pos ⟨HBG.out, rfl⟩] at hrr
            have HRR := hid hrr
            have h0 := HF.out.cell (HH.out.head.cell 0) (fun h => h)
            have hxv := HVU.out.fr HFR.out (fun h => h)
            have HXV := hid hxv
            have HXI := hid (HIU.out.fr HFR.out (fun h => h))
            have HXS := hid (HUX.out.fr HFR.out (fun h => h))
            clear hrr hxv HVU HIU HUX HL3
            go_wp2_with (first | still_step | (with_reducible first | refine wpStill_nil ?_ | refine Flow.Both.mk ?_ ?_ | exact True.intro) | (with_reducible refine Flow.same_mk rfl rfl rfl ?_; go_simp; done) | (with_reducible exact Flow.same_un rfl rfl rfl) | (with_reducible refine Flow.region_flow (id := 19) [0, 1, 0, 0, 12, 28, 0, 127, 255] 256 243 [(0, none), (1, none), (2, none), (3, none), (4, none), (5, none), (6, none), (7, none), (8, some [])] mixed ?hB ?_; (case hB => decide +kernel); simp only [Flow.textOf, Flow.q1, Flow.q2, Flow.q3, Flow.q4, Flow.q5, Flow.q6, Flow.q7, Flow.q8, Flow.q9, Flow.wpFl, Flow.SameAll]) | (refine Flow.region_still mixed ?hB ?_; (case hB => decide +kernel)))
            go_at_call 42
            refine Calls.named fun wc hwc => ?_
            have hfc : Fr (fun _ => False) wr wc := by rw [hwc]; (with_reducible repeat' (first | exact Fr.refl _ _ | apply Fr.alloc | apply Fr.drew | apply Fr.drewN | refine Fr.setCell ?_ ?_ _))
            have hfw := HF.out.trans hfc (fun _ _ h => h)
            have HFC := hid hfc
            have HFW := hid hfw
            have hwq := hwc
            clear hwc hfc hfw
            refine (memory_is B Rm ids s.x wc (HH.out.mr.fr HFW.out (fun _ _ h => h)) hml).mono ?_
            rintro e w5 ⟨am, cm, rfl, ho5, hf5⟩
            have hfr5 := HFC.out.trans hf5 (fun _ _ h => h)
            have HF5 := hid (HF.out.trans hfr5 (fun _ _ h => h))
            have HX5 := hid (HXV.out.fr hfr5 (fun h => h))
            have HI5 := hid (HXI.out.fr hfr5 (fun h => h))
            have HS5 := hid (HXS.out.fr hfr5 (fun h => h))
            have HL5 := hid (HL4.out.fr hfr5 (fun h => h))
            have HFR5x := hid hfr5
            have i2 := HI5.out.cell 2
            have cD := (HX5.out.cell (1 + d)).trans (HSD.out.regs d hd16)
            have fD := HX5.out.free (1 + d)
            have p0 := (HX5.out.cell 0).trans HSD.out.place
            rw [← HTP.out] at p0
            have f0 := HX5.out.free 0
            have l5 := HX5.out.lt
            have l5i := HI5.out.lt
            have l5s := HS5.out.lt
            obtain ⟨ML, hML⟩ : ∃ ML, ML = s.x.mem.length := ⟨_, rfl⟩
            have HML := hid hML
            rw [← hML] at ho5 hml ⊢
            have HO5 := hid ho5
            have hnd : ¬ (1 + d = 0) := by omega
            have hdi : ((d : Nat) : Int) < 16 := by omega
            have hnd2 : ¬ (0 = 1 + d) := by omega
            have hnI : ¬ (w1.heap.size = w1.heap.size + 1) := by omega
            have hnI2 : ¬ (w1.heap.size + 1 = w1.heap.size) := by omega
            have hsz5 : w1.heap.size + 1 < wc.heap.size := by have := HFR.out.size; have := HFC.out.size; omega
            clear hfr5 hf5 hML ho5 HFC HFW HXV HXI HXS HL4 h0
            by_cases hw0 : 0 ≤ wv
            · by_cases hwl : wv < ML
              · obtain ⟨q, rfl⟩ : ∃ q : Nat, wv = q := ⟨wv.toNat, by omega⟩
                have hqm : q < s.x.mem.length := by have := HML.out; omega
                have hne : ints s.x.mem ≠ [] := fun h => by have := ints_length s.x.mem; rw [h] at this; simp at this; omega
                obtain ⟨mr, mo, rfl, hmr, hcell⟩ := HO5.out.vw.cell hne
                have cm := hcell q _ (ints_get s.x.mem q hqm)
                obtain ⟨mq, hmq⟩ : ∃ mq, mq = s.x.mem.getD q 0 := ⟨_, rfl⟩
                rw [← hmq] at cm
                have HMQ := hid hmq
                clear hmq
                have hmr2 : ¬ (w1.heap.size + 1 = mr) := by have h' : wc.heap.size ≤ mr := hmr; omega
                clear hcell hne hmr
                go_wp2_with (first | ((with_reducible apply wpList_loadA (b := wT.heap.size) (C := vT) (T := 45)); (case zlx => rfl); (case zlu => exact unTHR.choose_spec.1); (case zld => exact unTHR.choose_spec.2); (case zli => rw [HSD.out.size]; exact szTHR); (case zlb => (repeat (first | with_reducible exact HS5.out | with_reducible apply Blk.drew | with_reducible apply Blk.alloc | (with_reducible refine Blk.set_ne ?_ ?_ _))) <;> first | omega | (simp; omega) | (simp; done))) | ((with_reducible apply wpList_loadA (b := w1.heap.size + 1) (C := (((vT.setIfInBounds (1 + d) (.int .i64 0)).setIfInBounds (1 + d) (.int .i64 mq)).setIfInBounds 0 (.int .i64 (wrap64 (TP + 1))))) (T := 45)); (case zlx => rfl); (case zlu => exact unTHR.choose_spec.1); (case zld => exact unTHR.choose_spec.2); (case zli => simp only [Array.size_setIfInBounds]; rw [HSD.out.size]; exact szTHR); (case zlb => (repeat (first | with_reducible exact HX5.out | with_reducible apply Blk.drew | with_reducible apply Blk.alloc | with_reducible apply Blk.set | (with_reducible refine Blk.set_ne ?_ ?_ _))) <;> first | omega | (simp; omega) | (simp; done))) | still_step | (with_reducible first | refine wpStill_nil ?_ | refine Flow.Both.mk ?_ ?_ | exact True.intro) | (with_reducible refine Flow.same_mk rfl rfl rfl ?_; go_simp; done) | (with_reducible exact Flow.same_un rfl rfl rfl) | (with_reducible refine Flow.region_flow (id := 19) [0, 1, 0, 0, 12, 28, 0, 127, 255] 256 243 [(0, none), (1, none), (2, none), (3, none), (4, none), (5, none), (6, none), (7, none), (8, some [])] mixed ?hB ?_; (case hB => decide +kernel); simp only [Flow.textOf, Flow.q1, Flow.q2, Flow.q3, Flow.q4, Flow.q5, Flow.q6, Flow.q7, Flow.q8, Flow.q9, Flow.wpFl, Flow.SameAll]) | (refine Flow.region_still mixed ?hB ?_; (case hB => decide +kernel)))
                go_at_call 60
                refine Calls.named fun w6 hw6 => ?_
                have hf56 : Fr (fun z => z = w1.heap.size + 1) w5 w6 := by rw [hw6]; (repeat' (first | with_reducible exact Fr.refl _ _ | with_reducible apply Fr.drew | with_reducible apply Fr.alloc | (with_reducible refine Fr.setCell ?_ (fun _ => ?_) _))) <;> rfl
                have hf16 : Fr (fun _ => False) w1 w6 := ((HFU.out.trans HFR.out (fun _ _ h => h)).trans (HFR5x.out) (fun _ _ h => h)).trans hf56 (fun z hz e => by omega)
                have hf6 := HF1.out.trans hf16 (fun _ _ h => h)
                obtain ⟨U, hU⟩ : ∃ U : Th, U = { T with regs := T.regs.set d (mq), place := wrap64 (TP + 1) } := ⟨_, rfl⟩
                have hU16 : U.regs.length = 16 := by rw [hU]; simp [HT16.out]
                have hUw : U.wait = T.wait := by rw [hU]
                have hei := end_is (HH.out.fr hf6 (fun _ _ h => h)) HGO.out T U ta ta tc tc _ HT16.out hU16 (by rw [hUw]; exact HO1.out.vw.fr hf16 (fun _ _ h => h)) (fun z hz hr => by have := HH.out.lt z hr; have := hz.1; omega) hln (by rw [hUw]; have := HTW.out; omega)
                rw [← HVT.out, show (standV U ta tc).toArray = (vT.setIfInBounds (1 + d) (.int .i64 (mq))).setIfInBounds 0 (.int .i64 (wrap64 (TP + 1))) from by rw [hU, HVT.out]; exact stand_pass0 T ta tc d _ _ HT16.out hd16] at hei
                refine hei.mono ?_
                rintro e w7 ⟨rfl, R7, hm7, hv7⟩
                have hlw := HL5.out.lt
                have HL4 := hid ((HL5.out.fr hf56 (fun e => by have e' : w.heap.size = w1.heap.size + 1 := e; omega)).fr hv7.2.2 (fun hr => by have := HH.out.lt _ hr; omega))
                have HNR := hid (show ¬ R7 w.heap.size from fun hr => by
                  rcases hv7.2.1 _ hr with h' | h'
                  · have := HH.out.lt _ h'; omega
                  · have := hf16.size; omega)
                have l7 := HL4.out.lt
                have HM7 := hid hm7
                have HV7 := hid ((Mv.of_fr (R := R) hf6).trans hv7)
                have HUE := hid hU
                clear hf56 hf16 hf6 hei hm7 hv7 hw6 hU hU16 hUw HL5 HX5 HS5 HI5 i2 cD fD p0 f0
                (try clear cm)
                go_wp2_with (first | ((with_reducible apply wpList_storeA (b := w.heap.size) (C := #[.int .i64 0, .int .i64 0, .int .i64 0, .int .i64 0]) (T := 37)); (case zsx => rfl); (case zsy => rfl); (case zsn => rfl); (case zsi => exact szLK); (case zs1 => rfl); (case zsb => ((repeat' (first | with_reducible exact HL1.out | with_reducible exact HL2.out | with_reducible exact HL3.out | with_reducible exact HL4.out | with_reducible apply Blk.drew | with_reducible apply Blk.alloc | (with_reducible refine Blk.set_ne ?_ ?_ _))); all_goals (first | omega | (simp; omega) | (simp; done)))); intro w9 hb9 hf9 hs9; have HB9 := hid hb9; have HF9 := hid hf9; have HSZ9 := hid hs9; clear hb9 hf9 hs9) | still_step | (with_reducible first | refine wpStill_nil ?_ | refine Flow.Both.mk ?_ ?_ | exact True.intro) | (with_reducible refine Flow.same_mk rfl rfl rfl ?_; go_simp; done) | (with_reducible exact Flow.same_un rfl rfl rfl) | (with_reducible refine Flow.region_flow (id := 19) [0, 1, 0, 0, 12, 28, 0, 127, 255] 256 243 [(0, none), (1, none), (2, none), (3, none), (4, none), (5, none), (6, none), (7, none), (8, some [])] mixed ?hB ?_; (case hB => decide +kernel); simp only [Flow.textOf, Flow.q1, Flow.q2, Flow.q3, Flow.q4, Flow.q5, Flow.q6, Flow.q7, Flow.q8, Flow.q9, Flow.wpFl, Flow.SameAll]) | (refine Flow.region_still mixed ?hB ?_; (case hB => decide +kernel)))
                refine bodyPost_ret (HRES.out _ rfl _ _ _ rfl HB9.out) rfl ?_
                have hF9 : Fr (fun z => z = w.heap.size) w7 w9 := by first | exact HF9.out | exact (Fr.refl _ _).drew.trans HF9.out (fun _ _ h => h)
                have hmr := HM7.out.fr hF9 (fun z hz e => by subst e; exact HNR.out hz)
                have hmv : Mv R R7 w w9 := ⟨HV7.out.1, HV7.out.2.1, HV7.out.2.2.trans hF9 (fun z hz e => by omega)⟩
                rw [HRR.out]
                have hpass : passed s.x T ⟨4, iop, d, ia, ib, inn, ito⟩ = U := by
                  unfold passed
                  rw [HUE.out, ← HWV.out]
                  unfold memAt
                  rw [if_pos ⟨by omega, by omega⟩, ← HTP.out, HMQ.out]
                  simp [hqm]
                rw [hpass]
                exact ⟨rfl, R7, hmr, hmv⟩
              · have hma : (memAt s.x.mem wv).getD 0 = 0 := by unfold memAt; rw [if_neg (by have := HML.out; omega)]; rfl
                have HMA := hid hma
                clear hma
                go_wp2_with (first | ((with_reducible apply wpList_loadA (b := wT.heap.size) (C := vT) (T := 45)); (case zlx => rfl); (case zlu => exact unTHR.choose_spec.1); (case zld => exact unTHR.choose_spec.2); (case zli => rw [HSD.out.size]; exact szTHR); (case zlb => (repeat (first | with_reducible exact HS5.out | with_reducible apply Blk.drew | with_reducible apply Blk.alloc | (with_reducible refine Blk.set_ne ?_ ?_ _))) <;> first | omega | (simp; omega) | (simp; done))) | ((with_reducible apply wpList_loadA (b := w1.heap.size + 1) (C := ((vT.setIfInBounds (1 + d) (.int .i64 0)).setIfInBounds 0 (.int .i64 (wrap64 (TP + 1))))) (T := 45)); (case zlx => rfl); (case zlu => exact unTHR.choose_spec.1); (case zld => exact unTHR.choose_spec.2); (case zli => simp only [Array.size_setIfInBounds]; rw [HSD.out.size]; exact szTHR); (case zlb => (repeat (first | with_reducible exact HX5.out | with_reducible apply Blk.drew | with_reducible apply Blk.alloc | with_reducible apply Blk.set | (with_reducible refine Blk.set_ne ?_ ?_ _))) <;> first | omega | (simp; omega) | (simp; done))) | still_step | (with_reducible first | refine wpStill_nil ?_ | refine Flow.Both.mk ?_ ?_ | exact True.intro) | (with_reducible refine Flow.same_mk rfl rfl rfl ?_; go_simp; done) | (with_reducible exact Flow.same_un rfl rfl rfl) | (with_reducible refine Flow.region_flow (id := 19) [0, 1, 0, 0, 12, 28, 0, 127, 255] 256 243 [(0, none), (1, none), (2, none), (3, none), (4, none), (5, none), (6, none), (7, none), (8, some [])] mixed ?hB ?_; (case hB => decide +kernel); simp only [Flow.textOf, Flow.q1, Flow.q2, Flow.q3, Flow.q4, Flow.q5, Flow.q6, Flow.q7, Flow.q8, Flow.q9, Flow.wpFl, Flow.SameAll]) | (refine Flow.region_still mixed ?hB ?_; (case hB => decide +kernel)))
                go_at_call 60
                refine Calls.named fun w6 hw6 => ?_
                have hf56 : Fr (fun z => z = w1.heap.size + 1) w5 w6 := by rw [hw6]; (repeat' (first | with_reducible exact Fr.refl _ _ | with_reducible apply Fr.drew | with_reducible apply Fr.alloc | (with_reducible refine Fr.setCell ?_ (fun _ => ?_) _))) <;> rfl
                have hf16 : Fr (fun _ => False) w1 w6 := ((HFU.out.trans HFR.out (fun _ _ h => h)).trans (HFR5x.out) (fun _ _ h => h)).trans hf56 (fun z hz e => by omega)
                have hf6 := HF1.out.trans hf16 (fun _ _ h => h)
                obtain ⟨U, hU⟩ : ∃ U : Th, U = { T with regs := T.regs.set d (0), place := wrap64 (TP + 1) } := ⟨_, rfl⟩
                have hU16 : U.regs.length = 16 := by rw [hU]; simp [HT16.out]
                have hUw : U.wait = T.wait := by rw [hU]
                have hei := end_is (HH.out.fr hf6 (fun _ _ h => h)) HGO.out T U ta ta tc tc _ HT16.out hU16 (by rw [hUw]; exact HO1.out.vw.fr hf16 (fun _ _ h => h)) (fun z hz hr => by have := HH.out.lt z hr; have := hz.1; omega) hln (by rw [hUw]; have := HTW.out; omega)
                rw [← HVT.out, show (standV U ta tc).toArray = (vT.setIfInBounds (1 + d) (.int .i64 (0))).setIfInBounds 0 (.int .i64 (wrap64 (TP + 1))) from by rw [hU, HVT.out]; exact stand_pass0 T ta tc d _ _ HT16.out hd16] at hei
                refine hei.mono ?_
                rintro e w7 ⟨rfl, R7, hm7, hv7⟩
                have hlw := HL5.out.lt
                have HL4 := hid ((HL5.out.fr hf56 (fun e => by have e' : w.heap.size = w1.heap.size + 1 := e; omega)).fr hv7.2.2 (fun hr => by have := HH.out.lt _ hr; omega))
                have HNR := hid (show ¬ R7 w.heap.size from fun hr => by
                  rcases hv7.2.1 _ hr with h' | h'
                  · have := HH.out.lt _ h'; omega
                  · have := hf16.size; omega)
                have l7 := HL4.out.lt
                have HM7 := hid hm7
                have HV7 := hid ((Mv.of_fr (R := R) hf6).trans hv7)
                have HUE := hid hU
                clear hf56 hf16 hf6 hei hm7 hv7 hw6 hU hU16 hUw HL5 HX5 HS5 HI5 i2 cD fD p0 f0
                (try clear cm)
                go_wp2_with (first | ((with_reducible apply wpList_storeA (b := w.heap.size) (C := #[.int .i64 0, .int .i64 0, .int .i64 0, .int .i64 0]) (T := 37)); (case zsx => rfl); (case zsy => rfl); (case zsn => rfl); (case zsi => exact szLK); (case zs1 => rfl); (case zsb => ((repeat' (first | with_reducible exact HL1.out | with_reducible exact HL2.out | with_reducible exact HL3.out | with_reducible exact HL4.out | with_reducible apply Blk.drew | with_reducible apply Blk.alloc | (with_reducible refine Blk.set_ne ?_ ?_ _))); all_goals (first | omega | (simp; omega) | (simp; done)))); intro w9 hb9 hf9 hs9; have HB9 := hid hb9; have HF9 := hid hf9; have HSZ9 := hid hs9; clear hb9 hf9 hs9) | still_step | (with_reducible first | refine wpStill_nil ?_ | refine Flow.Both.mk ?_ ?_ | exact True.intro) | (with_reducible refine Flow.same_mk rfl rfl rfl ?_; go_simp; done) | (with_reducible exact Flow.same_un rfl rfl rfl) | (with_reducible refine Flow.region_flow (id := 19) [0, 1, 0, 0, 12, 28, 0, 127, 255] 256 243 [(0, none), (1, none), (2, none), (3, none), (4, none), (5, none), (6, none), (7, none), (8, some [])] mixed ?hB ?_; (case hB => decide +kernel); simp only [Flow.textOf, Flow.q1, Flow.q2, Flow.q3, Flow.q4, Flow.q5, Flow.q6, Flow.q7, Flow.q8, Flow.q9, Flow.wpFl, Flow.SameAll]) | (refine Flow.region_still mixed ?hB ?_; (case hB => decide +kernel)))
                refine bodyPost_ret (HRES.out _ rfl _ _ _ rfl HB9.out) rfl ?_
                have hF9 : Fr (fun z => z = w.heap.size) w7 w9 := by first | exact HF9.out | exact (Fr.refl _ _).drew.trans HF9.out (fun _ _ h => h)
                have hmr := HM7.out.fr hF9 (fun z hz e => by subst e; exact HNR.out hz)
                have hmv : Mv R R7 w w9 := ⟨HV7.out.1, HV7.out.2.1, HV7.out.2.2.trans hF9 (fun z hz e => by omega)⟩
                rw [HRR.out]
                have hpass : passed s.x T ⟨4, iop, d, ia, ib, inn, ito⟩ = U := by
                  unfold passed
                  rw [HUE.out, ← HWV.out, HMA.out, ← HTP.out]
                  simp
                rw [hpass]
                exact ⟨rfl, R7, hmr, hmv⟩
            · have hma : (memAt s.x.mem wv).getD 0 = 0 := by unfold memAt; rw [if_neg (by omega)]; rfl
              have HMA := hid hma
              clear hma
              go_wp2_with (first | ((with_reducible apply wpList_loadA (b := wT.heap.size) (C := vT) (T := 45)); (case zlx => rfl); (case zlu => exact unTHR.choose_spec.1); (case zld => exact unTHR.choose_spec.2); (case zli => rw [HSD.out.size]; exact szTHR); (case zlb => (repeat (first | with_reducible exact HS5.out | with_reducible apply Blk.drew | with_reducible apply Blk.alloc | (with_reducible refine Blk.set_ne ?_ ?_ _))) <;> first | omega | (simp; omega) | (simp; done))) | ((with_reducible apply wpList_loadA (b := w1.heap.size + 1) (C := ((vT.setIfInBounds (1 + d) (.int .i64 0)).setIfInBounds 0 (.int .i64 (wrap64 (TP + 1))))) (T := 45)); (case zlx => rfl); (case zlu => exact unTHR.choose_spec.1); (case zld => exact unTHR.choose_spec.2); (case zli => simp only [Array.size_setIfInBounds]; rw [HSD.out.size]; exact szTHR); (case zlb => (repeat (first | with_reducible exact HX5.out | with_reducible apply Blk.drew | with_reducible apply Blk.alloc | with_reducible apply Blk.set | (with_reducible refine Blk.set_ne ?_ ?_ _))) <;> first | omega | (simp; omega) | (simp; done))) | still_step | (with_reducible first | refine wpStill_nil ?_ | refine Flow.Both.mk ?_ ?_ | exact True.intro) | (with_reducible refine Flow.same_mk rfl rfl rfl ?_; go_simp; done) | (with_reducible exact Flow.same_un rfl rfl rfl) | (with_reducible refine Flow.region_flow (id := 19) [0, 1, 0, 0, 12, 28, 0, 127, 255] 256 243 [(0, none), (1, none), (2, none), (3, none), (4, none), (5, none), (6, none), (7, none), (8, some [])] mixed ?hB ?_; (case hB => decide +kernel); simp only [Flow.textOf, Flow.q1, Flow.q2, Flow.q3, Flow.q4, Flow.q5, Flow.q6, Flow.q7, Flow.q8, Flow.q9, Flow.wpFl, Flow.SameAll]) | (refine Flow.region_still mixed ?hB ?_; (case hB => decide +kernel)))
              go_at_call 60
              refine Calls.named fun w6 hw6 => ?_
              have hf56 : Fr (fun z => z = w1.heap.size + 1) w5 w6 := by rw [hw6]; (repeat' (first | with_reducible exact Fr.refl _ _ | with_reducible apply Fr.drew | with_reducible apply Fr.alloc | (with_reducible refine Fr.setCell ?_ (fun _ => ?_) _))) <;> rfl
              have hf16 : Fr (fun _ => False) w1 w6 := ((HFU.out.trans HFR.out (fun _ _ h => h)).trans (HFR5x.out) (fun _ _ h => h)).trans hf56 (fun z hz e => by omega)
              have hf6 := HF1.out.trans hf16 (fun _ _ h => h)
              obtain ⟨U, hU⟩ : ∃ U : Th, U = { T with regs := T.regs.set d (0), place := wrap64 (TP + 1) } := ⟨_, rfl⟩
              have hU16 : U.regs.length = 16 := by rw [hU]; simp [HT16.out]
              have hUw : U.wait = T.wait := by rw [hU]
              have hei := end_is (HH.out.fr hf6 (fun _ _ h => h)) HGO.out T U ta ta tc tc _ HT16.out hU16 (by rw [hUw]; exact HO1.out.vw.fr hf16 (fun _ _ h => h)) (fun z hz hr => by have := HH.out.lt z hr; have := hz.1; omega) hln (by rw [hUw]; have := HTW.out; omega)
              rw [← HVT.out, show (standV U ta tc).toArray = (vT.setIfInBounds (1 + d) (.int .i64 (0))).setIfInBounds 0 (.int .i64 (wrap64 (TP + 1))) from by rw [hU, HVT.out]; exact stand_pass0 T ta tc d _ _ HT16.out hd16] at hei
              refine hei.mono ?_
              rintro e w7 ⟨rfl, R7, hm7, hv7⟩
              have hlw := HL5.out.lt
              have HL4 := hid ((HL5.out.fr hf56 (fun e => by have e' : w.heap.size = w1.heap.size + 1 := e; omega)).fr hv7.2.2 (fun hr => by have := HH.out.lt _ hr; omega))
              have HNR := hid (show ¬ R7 w.heap.size from fun hr => by
                rcases hv7.2.1 _ hr with h' | h'
                · have := HH.out.lt _ h'; omega
                · have := hf16.size; omega)
              have l7 := HL4.out.lt
              have HM7 := hid hm7
              have HV7 := hid ((Mv.of_fr (R := R) hf6).trans hv7)
              have HUE := hid hU
              clear hf56 hf16 hf6 hei hm7 hv7 hw6 hU hU16 hUw HL5 HX5 HS5 HI5 i2 cD fD p0 f0
              (try clear cm)
              go_wp2_with (first | ((with_reducible apply wpList_storeA (b := w.heap.size) (C := #[.int .i64 0, .int .i64 0, .int .i64 0, .int .i64 0]) (T := 37)); (case zsx => rfl); (case zsy => rfl); (case zsn => rfl); (case zsi => exact szLK); (case zs1 => rfl); (case zsb => ((repeat' (first | with_reducible exact HL1.out | with_reducible exact HL2.out | with_reducible exact HL3.out | with_reducible exact HL4.out | with_reducible apply Blk.drew | with_reducible apply Blk.alloc | (with_reducible refine Blk.set_ne ?_ ?_ _))); all_goals (first | omega | (simp; omega) | (simp; done)))); intro w9 hb9 hf9 hs9; have HB9 := hid hb9; have HF9 := hid hf9; have HSZ9 := hid hs9; clear hb9 hf9 hs9) | still_step | (with_reducible first | refine wpStill_nil ?_ | refine Flow.Both.mk ?_ ?_ | exact True.intro) | (with_reducible refine Flow.same_mk rfl rfl rfl ?_; go_simp; done) | (with_reducible exact Flow.same_un rfl rfl rfl) | (with_reducible refine Flow.region_flow (id := 19) [0, 1, 0, 0, 12, 28, 0, 127, 255] 256 243 [(0, none), (1, none), (2, none), (3, none), (4, none), (5, none), (6, none), (7, none), (8, some [])] mixed ?hB ?_; (case hB => decide +kernel); simp only [Flow.textOf, Flow.q1, Flow.q2, Flow.q3, Flow.q4, Flow.q5, Flow.q6, Flow.q7, Flow.q8, Flow.q9, Flow.wpFl, Flow.SameAll]) | (refine Flow.region_still mixed ?hB ?_; (case hB => decide +kernel)))
              refine bodyPost_ret (HRES.out _ rfl _ _ _ rfl HB9.out) rfl ?_
              have hF9 : Fr (fun z => z = w.heap.size) w7 w9 := by first | exact HF9.out | exact (Fr.refl _ _).drew.trans HF9.out (fun _ _ h => h)
              have hmr := HM7.out.fr hF9 (fun z hz e => by subst e; exact HNR.out hz)
              have hmv : Mv R R7 w w9 := ⟨HV7.out.1, HV7.out.2.1, HV7.out.2.2.trans hF9 (fun z hz e => by omega)⟩
              rw [HRR.out]
              have hpass : passed s.x T ⟨4, iop, d, ia, ib, inn, ito⟩ = U := by
                unfold passed
                rw [HUE.out, ← HWV.out, HMA.out, ← HTP.out]
                simp
              rw [hpass]
              exact ⟨rfl, R7, hmr, hmv⟩
  · rw [if_neg (fun h => hbg h.1)] at hrs
    subst hrs
    rw [decide_eq_false hbg]
    clear hbg hiv
    obtain ⟨ik, iop, idd, ia, ib, inn, ito⟩ := iv
    dsimp only [insC]
    go_wp2_with (first | ((with_reducible apply wpList_allocA (ty := 45) (standV noTh none 0).toArray); (case zai => exact zTHR2); (case zac => rfl); intro wA8 hbA hfA hsA; have HBA8 := hid hbA; have HFA8 := hid hfA; clear hbA hfA hsA) | ((with_reducible apply wpList_storeA (b := w1.heap.size) (C := #[.int .i64 0, .int .i64 0, .int .i64 0, .int .i64 0, .int .i64 0, .int .i64 0, .int .i64 0]) (cells := #[.int .i64 ik, .int .i64 iop, .int .i64 idd, .int .i64 ia, .int .i64 ib, .int .i64 inn, .int .i64 ito]) (T := 57)); (case zsx => rfl); (case zsy => rfl); (case zsn => rfl); (case zsi => exact szINS); (case zs1 => rfl); (case zsb => exact (Blk.new w1 _ _).fr HFA8.out (fun h => h)); intro wI hbI hfI hsI; have HBI := hid hbI; have HFI := hid hfI; clear hbI hfI hsI) | ((with_reducible apply wpList_storeA (b := w1.heap.size + 1) (C := (standV noTh none 0).toArray) (cells := vT) (T := 45)); (case zsx => rfl); (case zsy => rfl); (case zsn => exact HSD.out.size); (case zsi => rw [HSD.out.size]; exact szTHR); (case zs1 => exact HSD.out.one); (case zsb => exact Blk.fr (by have := HBA8.out; simpa using this) HFI.out (fun e => by have e' : w1.heap.size + 1 = w1.heap.size := e; omega)); intro wT hbT hfT hsT; have HVX := hid hbT; have HIX := hid (HBI.out.fr hfT (fun e => by have e' : w1.heap.size = w1.heap.size + 1 := e; omega)); have hft : Fr (fun _ => False) w1 wT := (((show Fr (fun _ => False) w1 _ by (with_reducible repeat' (first | exact Fr.refl _ _ | apply Fr.alloc | apply Fr.drew | apply Fr.drewN | refine Fr.setCell ?_ ?_ _))).trans HFA8.out (fun _ _ h => h)).trans HFI.out (fun z hz e => by have e' : z = w1.heap.size := e; omega)).trans hfT (fun z hz e => by have e' : z = w1.heap.size + 1 := e; omega); have HFT := hid hft; have HL2 := hid (HL1.out.fr hft (fun h => h)); have c8 := (HVX.out.cell 0); have i0 := HIX.out.cell 0; have l8 := HVX.out.lt; clear hbT hfT hsT HBI HFI HBA8 HFA8 hft HL1) | ((with_reducible apply wpList_storeA (b := w.heap.size) (C := #[.int .i64 0, .int .i64 0, .int .i64 0, .int .i64 0]) (T := 37)); (case zsx => rfl); (case zsy => rfl); (case zsn => rfl); (case zsi => exact szLK); (case zs1 => rfl); (case zsb => ((repeat' (first | with_reducible exact HL1.out | with_reducible exact HL2.out | with_reducible exact HL3.out | with_reducible exact HL4.out | with_reducible apply Blk.drew | with_reducible apply Blk.alloc | (with_reducible refine Blk.set_ne ?_ ?_ _))); all_goals (first | omega | (simp; omega) | (simp; done)))); intro w9 hb9 hf9 hs9; have HB9 := hid hb9; have HF9 := hid hf9; have HSZ9 := hid hs9; clear hb9 hf9 hs9) | still_step | (with_reducible first | refine wpStill_nil ?_ | refine Flow.Both.mk ?_ ?_ | exact True.intro) | (with_reducible refine Flow.same_mk rfl rfl rfl ?_; go_simp; done) | (with_reducible exact Flow.same_un rfl rfl rfl) | (with_reducible refine Flow.region_flow (id := 19) [0, 1, 0, 0, 12, 28, 0, 127, 255] 256 243 [(0, none), (1, none), (2, none), (3, none), (4, none), (5, none), (6, none), (7, none), (8, some [])] mixed ?hB ?_; (case hB => decide +kernel); simp only [Flow.textOf, Flow.q1, Flow.q2, Flow.q3, Flow.q4, Flow.q5, Flow.q6, Flow.q7, Flow.q8, Flow.q9, Flow.wpFl, Flow.SameAll]) | (refine Flow.region_still mixed ?hB ?_; (case hB => decide +kernel)))
    refine bodyPost_ret (HRES.out _ rfl _ _ _ rfl HB9.out) rfl ?_
    have hft := HF1.out.trans HFT.out (fun _ _ h => h)
    have hF9 : Fr (fun _ => False) w w9 := fr_weaken (by (repeat' (first | with_reducible exact hft | with_reducible apply Fr.alloc | with_reducible apply Fr.drew | (with_reducible refine Fr.setCell ?_ ?_ _)))) HF9.out (Nat.le_refl _)
    exact ⟨rfl, R, SR.fr ⟨B, OB, oc, ids, D, A, C, V, G, Rm, HH.out⟩ hF9 (fun _ _ h => h), Mv.of_fr hF9⟩
end Go.Proofs.Ytbfeopakmjcapaa.Sp
