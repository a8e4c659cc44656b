/-
  TsoPut: a thread that is put back stands as it stood, and does the same again.
-/
import Derived.Test.YtfekjgkhagcjgaaAwake28
import Derived.Test.YtfekjgkhagcjgaaTsoQ
namespace Go.Proofs.Ytfekjgkhagcjgaa.Tso
open Go.RowKit Go.Proofs.Ytfekjgkhagcjgaa.Seq
attribute [local irreducible] wpStill wpList Calls CallsIn

theorem made5 : (madeCells (Value.agg #[.int .i64 0, .int .i64 0]).cells (5 * 2)).toList = ent (List.replicate 5 (0, 0)) := by
  simp [madeCells, Value.cells, ent]
  rfl

set_option linter.unusedSimpArgs false in
set_option maxHeartbeats 40000000 in
set_option maxRecDepth 100000 in
theorem put_walk (ao aa a1 a2 : Option Addr) (co ac cap1 cap2 : Nat) (qs : List ((Option Addr × Nat) × List Ins)) (al : List (Int × Int × Bool)) (words locks : Int) (mem : List Int) (l : List (Bool × Int)) (w : World)
    (hc : Codes w (fun k => k < w.heap.size) ao qs) (ha : Vw w 3 (fun k => k < w.heap.size) aa al.length (areaC al)) (hal : al.length ≤ 9223372036854775807) (hql : qs.length ≤ 9223372036854775807) (hi : ∀ q ∈ qs, q.2.length ≤ 9223372036854775807)
    (hm : Vw w 1 (fun k => k < w.heap.size) a1 mem.length (ints mem)) (hmn : a1 = none → mem.length = 0) (hml : mem.length ≤ 9223372036854775807) (hv : Vw w 2 (fun k => k < w.heap.size) a2 l.length (doC l)) (hll : l.length ≤ 9223372036854775807) :
    Calls Try.prog 6 #[.agg #[.slice ao qs.length co, .slice aa al.length ac, .int .i64 words, .int .i64 locks], .slice a1 mem.length cap1, .slice a2 l.length cap2] w fun e w' => e = .returned (.bool true) ∧ Fr (fun _ => False) w w' := by
  have HC := hid hc
  have HA := hid ha
  have HM := hid hm
  have HMN := hid hmn
  have HV := hid hv
  have HI := hid hi
  have hqal := hid (And.intro hql hal)
  clear hc ha hm hmn hv hi hql hal
  obtain ⟨QL, hQL⟩ : ∃ QL, QL = qs.length := ⟨_, rfl⟩
  have HQL := hid hQL
  rw [← hQL]
  obtain ⟨AL, hAL⟩ : ∃ AL, AL = al.length := ⟨_, rfl⟩
  have HAL := hid hAL
  rw [← hAL]
  obtain ⟨ML, hML⟩ : ∃ ML, ML = mem.length := ⟨_, rfl⟩
  have HML := hid hML
  rw [← hML] at hml ⊢
  clear hQL hAL hML
  have HX := hid (Blk.new w #[.slice ao QL co, .slice aa AL ac, .int .i64 words, .int .i64 locks] 25)
  go_enter Try.func6, Try.ntmps6
  go_wp2_with (first | fail | still_step | (with_reducible refine wpStill_nil ?_) | (with_reducible refine Flow.Both.mk ?_ ?_) | (with_reducible exact True.intro) | (with_reducible refine Flow.same_mk rfl rfl rfl ?_; go_simp; done) | (with_reducible exact Flow.same_un rfl rfl rfl) | (refine Flow.region_still mixed ?hB ?_; (case hB => decide +kernel)))
  go_at_call 7
  refine (awake_true _).mono ?_
  rintro e w1 ⟨rfl, hf1⟩
  have HF1 := hid ((show Fr (fun _ => False) w _ by (repeat' (first | with_reducible exact Fr.refl _ _ | with_reducible apply Fr.alloc | with_reducible apply Fr.drew | with_reducible apply Fr.drewN | (with_reducible refine Fr.setCell ?_ ?_ _)))).trans hf1 (fun _ _ h => h))
  have hx1 := HX.out.fr hf1 (fun h => h)
  have c0_i := Blk.cell hx1 0
  have f0_i := Blk.free hx1 0
  have c1_i := Blk.cell hx1 1
  have f1_i := Blk.free hx1 1
  have c2_i := Blk.cell hx1 2
  have f2_i := Blk.free hx1 2
  have c3_i := Blk.cell hx1 3
  have f3_i := Blk.free hx1 3
  have l_i := Blk.lt hx1
  have HX1 := hid hx1
  have HC1 := hid (HC.out.fr HF1.out (fun _ _ h => h))
  have HA1 := hid (HA.out.fr HF1.out (fun _ _ h => h))
  clear hf1 HX hx1
  go_wp2_with (first | fail | still_step | (with_reducible refine wpStill_nil ?_) | (with_reducible refine Flow.Both.mk ?_ ?_) | (with_reducible exact True.intro) | (with_reducible refine Flow.same_mk rfl rfl rfl ?_; go_simp; done) | (with_reducible exact Flow.same_un rfl rfl rfl) | (refine Flow.region_still mixed ?hB ?_; (case hB => decide +kernel)))
  go_at_call 8
  rw [HQL.out, HAL.out]
  refine (small_is _ _ ao aa co ac qs al words locks w1 HC1.out HA1.out hqal.out.2 hqal.out.1 HI.out).mono ?_
  rintro e w2 ⟨few, rfl, hfew, hf2⟩
  have HFEW := hid hfew
  have HF2 := hid (HF1.out.trans hf2 (fun _ _ h => h))
  have hx2 := HX1.out.fr hf2 (fun h => h)
  clear c0_i f0_i c1_i f1_i c2_i f2_i c3_i f3_i l_i
  have c0_i := Blk.cell hx2 0
  have f0_i := Blk.free hx2 0
  have c1_i := Blk.cell hx2 1
  have f1_i := Blk.free hx2 1
  have c2_i := Blk.cell hx2 2
  have f2_i := Blk.free hx2 2
  have c3_i := Blk.cell hx2 3
  have f3_i := Blk.free hx2 3
  have l_i := Blk.lt hx2
  clear hf2 hfew HX1 hx2 HF1 HC1 HA1
  cases few with
  | false =>
    go_wp2_with (first | fail | still_step | (with_reducible refine wpStill_nil ?_) | (with_reducible refine Flow.Both.mk ?_ ?_) | (with_reducible exact True.intro) | (with_reducible refine Flow.same_mk rfl rfl rfl ?_; go_simp; done) | (with_reducible exact Flow.same_un rfl rfl rfl) | (refine Flow.region_still mixed ?hB ?_; (case hB => decide +kernel)))
    go_ret
    exact ⟨rfl, HF2.out⟩
  | true =>
    obtain ⟨hg, hwd, hln⟩ := HFEW.out rfl
    have hql4 : qs.length ≤ 4 := hg.1
    by_cases hm3 : 300 < ML
    · go_wp2_with (first | fail | still_step | (with_reducible refine wpStill_nil ?_) | (with_reducible refine Flow.Both.mk ?_ ?_) | (with_reducible exact True.intro) | (with_reducible refine Flow.same_mk rfl rfl rfl ?_; go_simp; done) | (with_reducible exact Flow.same_un rfl rfl rfl) | (refine Flow.region_still mixed ?hB ?_; (case hB => decide +kernel)))
      go_ret
      exact ⟨rfl, HF2.out⟩
    by_cases hl6 : 60 < l.length
    · go_wp2_with (first | fail | still_step | (with_reducible refine wpStill_nil ?_) | (with_reducible refine Flow.Both.mk ?_ ?_) | (with_reducible exact True.intro) | (with_reducible refine Flow.same_mk rfl rfl rfl ?_; go_simp; done) | (with_reducible exact Flow.same_un rfl rfl rfl) | (refine Flow.region_still mixed ?hB ?_; (case hB => decide +kernel)))
      go_ret
      exact ⟨rfl, HF2.out⟩
    by_cases hq0 : QL = 0
    · subst hq0
      go_wp2_with (first | fail | still_step | (with_reducible refine wpStill_nil ?_) | (with_reducible refine Flow.Both.mk ?_ ?_) | (with_reducible exact True.intro) | (with_reducible refine Flow.same_mk rfl rfl rfl ?_; go_simp; done) | (with_reducible exact Flow.same_un rfl rfl rfl) | (refine Flow.region_still mixed ?hB ?_; (case hB => decide +kernel)))
      go_ret
      exact ⟨rfl, HF2.out⟩
    have HG := hid hg
    have HLN := hid hln
    obtain ⟨words, rfl⟩ : ∃ n : Nat, words = n := ⟨words.toNat, by have := hg.2.2.2.1; omega⟩
    obtain ⟨locks, rfl⟩ : ∃ n : Nat, locks = n := ⟨locks.toNat, by have := hg.2.1; omega⟩
    have hlk8 : locks ≤ 8 := by have := hg.2.2.1; omega
    have hq0' : ((QL : Int) == 0) = false := by simpa using (show ¬ ((QL : Int) = 0) by omega)
    clear hg hln HFEW
    go_wp2_with (first | fail | still_step | (with_reducible refine wpStill_nil ?_) | (with_reducible refine Flow.Both.mk ?_ ?_) | (with_reducible exact True.intro) | (with_reducible refine Flow.same_mk rfl rfl rfl ?_; go_simp; done) | (with_reducible exact Flow.same_un rfl rfl rfl) | (refine Flow.region_still mixed ?hB ?_; (case hB => decide +kernel)))
    go_at_call 9
    rw [HQL.out, HML.out]
    refine (new_is (fun k => k < w.heap.size) (fun k => k < w.heap.size) ao a1 aa co cap1 AL ac qs words locks 4 mem w2 (HC.out.fr HF2.out (fun _ _ h => h)) (HM.out.fr HF2.out (fun _ _ h => h)) HMN.out (by omega) (by have := HML.out; omega) (fun q hq => by have := HLN.out q hq; omega) (by omega) hlk8 (by omega)).mono ?_
    rintro e w3 ⟨B, ids, rfl, hm3', hf3⟩
    obtain ⟨m0', hm0'⟩ : ∃ x, x = start (qs.map (·.2)) words mem locks 4 := ⟨_, rfl⟩
    rw [← hm0'] at hm3'
    have hg0 : GoodM m0' := by
      rw [hm0']
      refine start_good (fun c hc i hi => ?_)
      obtain ⟨q, hq, rfl⟩ := List.mem_map.1 hc
      exact HG.out.2.2.2.2.2 q hq i hi
    have hev0 : m0'.events.length ≤ 0 ∧ m0'.room = 4 := by
      rw [hm0']
      exact ⟨Nat.le_refl 0, rfl⟩
    have HG0 := hid hg0
    have HEV0 := hid hev0
    have HS0 := hid (show St w w3 _ B ids m0' [] from ⟨hm3', fun e he => (by cases he), HF2.out.trans hf3 (fun _ _ h => h), fun z hz => by have := HF2.out.size; exact Nat.le_trans this hz.1⟩)
    clear c0_i f0_i c1_i f1_i c2_i f2_i c3_i f3_i l_i hf3 hm3' hm0' hg0 hev0 HF2 HC HA HM HMN HI HG HLN HQL HAL HML hqal hlk8 hwd hql4 hm3
    go_wp2_with (first | fail | still_step | (with_reducible refine wpStill_nil ?_) | (with_reducible refine Flow.Both.mk ?_ ?_) | (with_reducible exact True.intro) | (with_reducible refine Flow.same_mk rfl rfl rfl ?_; go_simp; done) | (with_reducible exact Flow.same_un rfl rfl rfl) | (refine Flow.region_still mixed ?hB ?_; (case hB => decide +kernel)))
    go_loopw [10] (fun i wr => ∃ (k : Nat) (R : Nat → Prop) (m : M), k ≤ l.length ∧ i = .int .i64 k ∧ St w wr R B ids m [] ∧ GoodM m ∧ m.events.length ≤ k ∧ m.room = 4) (fun i _ => l.length - (intOf i).toNat)
    case atStart => exact ⟨0, _, _, Nat.zero_le _, rfl, HS0.out, HG0.out, HEV0.out.1, HEV0.out.2⟩
    case round =>
      obtain ⟨k, R, m, hk, rfl, hst, hg, hev, hroom⟩ := hrel
      have HST := hid hst
      have HG := hid hg
      have HEV := hid hev
      have HRM := hid hroom
      have hf := hst.fr0
      have HF := hid hf
      clear hst hg hev hroom hf HG0 HEV0 HS0
      by_cases hlt : k < l.length
      · have hne : doC l ≠ [] := fun h => by have := doC_length l; rw [h] at this; simp at this; omega
        obtain ⟨r0, off0, rfl, hr0, hcell⟩ := (HV.out.fr HF.out (fun _ _ h => h)).cell hne
        have c0 : wr.cell? ⟨r0, off0 + k * 2, none⟩ = some (.bool l[k].1) := hcell (k * 2) _ (doC_get l k hlt).1
        have c1 : wr.cell? ⟨r0, off0 + k * 2 + 1, none⟩ = some (.int .i64 l[k].2) := hcell (k * 2 + 1) _ (doC_get l k hlt).2
        clear hcell hne
        generalize l[k] = d at *
        obtain ⟨fl, who⟩ := d
        dsimp only at c0 c1
        cases fl with
        | true =>
          go_wp2_with (first | fail | still_step | (with_reducible refine wpStill_nil ?_) | (with_reducible refine Flow.Both.mk ?_ ?_) | (with_reducible exact True.intro) | (with_reducible refine Flow.same_mk rfl rfl rfl ?_; go_simp; done) | (with_reducible exact Flow.same_un rfl rfl rfl) | (refine Flow.region_still mixed ?hB ?_; (case hB => decide +kernel)))
          go_at_call 13
          refine (flush_is B _ ids m who _ (St.fr HST.out (show Fr (fun _ => False) wr _ by (repeat' (first | with_reducible exact Fr.refl _ _ | with_reducible apply Fr.alloc | with_reducible apply Fr.drew | with_reducible apply Fr.drewN | (with_reducible refine Fr.setCell ?_ ?_ _))))).mr).mono ?_
          rintro e w4 ⟨rfl, R4, hm4, hv4⟩
          have hST := (St.fr HST.out (show Fr (fun _ => False) wr _ by (repeat' (first | with_reducible exact Fr.refl _ _ | with_reducible apply Fr.alloc | with_reducible apply Fr.drew | with_reducible apply Fr.drewN | (with_reducible refine Fr.setCell ?_ ?_ _))))).mv hm4 hv4
          have hgf := flush_good HG.out who
          have HST4 := hid hST
          have HGF := hid hgf
          clear hm4 hv4 hST hgf c0 c1
          go_wp2_with (first | fail | still_step | (with_reducible refine wpStill_nil ?_) | (with_reducible refine Flow.Both.mk ?_ ?_) | (with_reducible exact True.intro) | (with_reducible refine Flow.same_mk rfl rfl rfl ?_; go_simp; done) | (with_reducible exact Flow.same_un rfl rfl rfl) | (refine Flow.region_still mixed ?hB ?_; (case hB => decide +kernel)))
          go_roundw
          case rel => exact ⟨k + 1, R4, _, by omega, by go_num, HST4.out, HGF.out.1, by have := HGF.out.2.1; have := HEV.out; omega, by rw [HGF.out.2.2.2]; exact HRM.out⟩
          case measure => simp [intOf]; omega
        | false =>
          go_wp2_with (first | fail | still_step | (with_reducible refine wpStill_nil ?_) | (with_reducible refine Flow.Both.mk ?_ ?_) | (with_reducible exact True.intro) | (with_reducible refine Flow.same_mk rfl rfl rfl ?_; go_simp; done) | (with_reducible exact Flow.same_un rfl rfl rfl) | (refine Flow.region_still mixed ?hB ?_; (case hB => decide +kernel)))
          go_at_call 16
          refine (step_is B _ ids m who _ (St.fr HST.out (show Fr (fun _ => False) wr _ by (repeat' (first | with_reducible exact Fr.refl _ _ | with_reducible apply Fr.alloc | with_reducible apply Fr.drew | with_reducible apply Fr.drewN | (with_reducible refine Fr.setCell ?_ ?_ _))))).mr HG.out (by unfold evRoom; have := HEV.out; omega)).mono ?_
          rintro e w4 ⟨rfl, R4, hm4, hv4⟩
          have hST := (St.fr HST.out (show Fr (fun _ => False) wr _ by (repeat' (first | with_reducible exact Fr.refl _ _ | with_reducible apply Fr.alloc | with_reducible apply Fr.drew | with_reducible apply Fr.drewN | (with_reducible refine Fr.setCell ?_ ?_ _))))).mv hm4 hv4
          have hgf := step_good HG.out who
          have HST4 := hid hST
          have HGF := hid hgf
          clear hm4 hv4 hST hgf c0 c1
          go_wp2_with (first | fail | still_step | (with_reducible refine wpStill_nil ?_) | (with_reducible refine Flow.Both.mk ?_ ?_) | (with_reducible exact True.intro) | (with_reducible refine Flow.same_mk rfl rfl rfl ?_; go_simp; done) | (with_reducible exact Flow.same_un rfl rfl rfl) | (refine Flow.region_still mixed ?hB ?_; (case hB => decide +kernel)))
          go_roundw
          case rel => exact ⟨k + 1, R4, _, by omega, by go_num, HST4.out, HGF.out.1, by have := HGF.out.2.1; have := HEV.out; omega, by rw [HGF.out.2.2.2]; exact HRM.out⟩
          case measure => simp [intOf]; omega
      · obtain rfl : k = l.length := by omega
        clear HV hlt hk
        go_wp2_with (first | fail | still_step | (with_reducible refine wpStill_nil ?_) | (with_reducible refine Flow.Both.mk ?_ ?_) | (with_reducible exact True.intro) | (with_reducible refine Flow.same_mk rfl rfl rfl ?_; go_simp; done) | (with_reducible exact Flow.same_un rfl rfl rfl) | (refine Flow.region_still mixed ?hB ?_; (case hB => decide +kernel)))
        go_at_call 11
        refine (next_is B _ ids m 0 _ (St.fr HST.out (show Fr (fun _ => False) wr _ by (repeat' (first | with_reducible exact Fr.refl _ _ | with_reducible apply Fr.alloc | with_reducible apply Fr.drew | with_reducible apply Fr.drewN | (with_reducible refine Fr.setCell ?_ ?_ _))))).mr).mono ?_
        rintro e w4 ⟨rfl, hf4⟩
        have hST := St.fr HST.out ((show Fr (fun _ => False) wr _ by (repeat' (first | with_reducible exact Fr.refl _ _ | with_reducible apply Fr.alloc | with_reducible apply Fr.drew | with_reducible apply Fr.drewN | (with_reducible refine Fr.setCell ?_ ?_ _)))).trans hf4 (fun _ _ h => h))
        clear HST
        have HST := hid hST
        clear hf4 hST
        cases hn : m.next 0 with
        | none =>
          dsimp only [Option.getD_none, Option.isSome_none, insC, noneI]
          go_wp2_with (first | fail | still_step | (with_reducible refine wpStill_nil ?_) | (with_reducible refine Flow.Both.mk ?_ ?_) | (with_reducible exact True.intro) | (with_reducible refine Flow.same_mk rfl rfl rfl ?_; go_simp; done) | (with_reducible exact Flow.same_un rfl rfl rfl) | (refine Flow.region_still mixed ?hB ?_; (case hB => decide +kernel)))
          go_ret
          exact ⟨rfl, (St.fr HST.out (show Fr (fun _ => False) w4 _ by (repeat' (first | with_reducible exact Fr.refl _ _ | with_reducible apply Fr.alloc | with_reducible apply Fr.drew | with_reducible apply Fr.drewN | (with_reducible refine Fr.setCell ?_ ?_ _))))).fr0⟩
        | some I =>
          obtain ⟨ik, iop, idd, ia, ib, inn, ito⟩ := I
          dsimp only [Option.getD_some, Option.isSome_some, insC]
          by_cases hk9 : 9 ≤ ik
          · clear hn
            go_wp2_with (first | fail | still_step | (with_reducible refine wpStill_nil ?_) | (with_reducible refine Flow.Both.mk ?_ ?_) | (with_reducible exact True.intro) | (with_reducible refine Flow.same_mk rfl rfl rfl ?_; go_simp; done) | (with_reducible exact Flow.same_un rfl rfl rfl) | (refine Flow.region_still mixed ?hB ?_; (case hB => decide +kernel)))
            go_ret
            exact ⟨rfl, (St.fr HST.out (show Fr (fun _ => False) w4 _ by (repeat' (first | with_reducible exact Fr.refl _ _ | with_reducible apply Fr.alloc | with_reducible apply Fr.drew | with_reducible apply Fr.drewN | (with_reducible refine Fr.setCell ?_ ?_ _))))).fr0⟩
          · obtain ⟨T, hT, hTn⟩ : ∃ T, m.th 0 = some T ∧ T.next = some ⟨ik, iop, idd, ia, ib, inn, ito⟩ := by
              unfold M.next at hn
              cases ht : m.th 0 with
              | none => rw [ht] at hn; cases hn
              | some T => rw [ht] at hn; exact ⟨T, rfl, hn⟩
            have hro := room_ok HST.out.mr 0 hT
            have HT := hid (show (m.th 0).getD noTh = T by rw [hT]; rfl)
            have HTW := hid (show T.wait.length ≤ 4 by have := HRM.out; omega)
            have HT16 := hid hro.2
            have HPS := hid (put_step hT hTn (by dsimp only; omega) hro.1)
            obtain ⟨⟨m1, lk, is⟩, hres⟩ : ∃ r, r = m.step 0 := ⟨_, rfl⟩
            obtain ⟨kk, kt, kw, kn⟩ := lk
            have HRES := hid hres
            have HP := hid (show m1.put 0 T = m by have := HPS.out; rw [← hres] at this; exact this)
            have HEV1 := hid (show m1.room = 4 by have := (step_good HG.out 0).2.2.2; rw [← hres] at this; dsimp only at this; rw [this]; exact HRM.out)
            obtain ⟨T1, hT1⟩ : ∃ T1, (m1.th 0).getD noTh = T1 := ⟨_, rfl⟩
            have HT1 := hid hT1
            clear hn hT hTn hro hres HPS hT1
            go_wp2_with (first | fail | still_step | (with_reducible refine wpStill_nil ?_) | (with_reducible refine Flow.Both.mk ?_ ?_) | (with_reducible exact True.intro) | (with_reducible refine Flow.same_mk rfl rfl rfl ?_; go_simp; done) | (with_reducible exact Flow.same_un rfl rfl rfl) | (refine Flow.region_still mixed ?hB ?_; (case hB => decide +kernel)))
            go_at_call 23
            refine Calls.named fun wc hwc => ?_
            have hST := St.fr HST.out (show Fr (fun _ => False) w4 wc by rw [hwc]; (repeat' (first | with_reducible exact Fr.refl _ _ | with_reducible apply Fr.alloc | with_reducible apply Fr.drew | with_reducible apply Fr.drewN | (with_reducible refine Fr.setCell ?_ ?_ _))))
            clear HST hwc
            have HST := hid hST
            clear hST
            have hti := thread_is B _ ids m 0 wc HST.out.mr
            have h16 := regs16 HST.out.mr 0
            rw [HT.out] at hti h16
            refine hti.mono ?_
            rintro e w13 ⟨ta13, tc13, rfl, ho13, hf13⟩
            obtain ⟨L13, hLa, hLb⟩ := own_row ho13
            have hST := (St.fr HST.out hf13).add (fun e he => ⟨(hLa e he).1, fun hr => by have h1 := HST.out.mr.lt _ hr; have h2 := (hLa e he).2; (try dsimp only at h2); omega⟩)
            have HO13 := hid hLb
            clear HST hLa hLb ho13 hf13 hti
            have HST := hid hST
            obtain ⟨vl13, hvl⟩ : ∃ vl, vl = (standV T ta13 tc13).toArray := ⟨_, rfl⟩
            have hsd := stand_of _ ta13 tc13 h16
            rw [← hvl] at hsd ⊢
            have hvs := hsd.size
            have hv1 := hsd.one
            have HSD13 := hid hsd
            clear hST hvl hsd h16
            go_wp2_with (first | ((with_reducible apply wpList_allocA (ty := 71) (standV noTh none 0).toArray); (case zai => exact zTHR); (case zac => rfl); intro wA hbA hfA hsA; have HBA := hid hbA; have HFA := hid hfA; clear hbA hfA hsA) | ((with_reducible apply wpList_storeA (b := w13.heap.size) (C := (standV noTh none 0).toArray) (cells := vl13) (T := 71)); (case zsx => rfl); (case zsy => rfl); (case zsn => exact hvs); (case zsi => rw [hvs]; exact szTHR); (case zs1 => exact hv1); (case zsb => exact HBA.out); intro wS13 hbS hfS hsS; have hST := St.new HST.out (fr_made HFA.out hfS (Nat.le_refl _)) hbS (Nat.le_refl _); clear HST HBA HFA hbS hfS hsS hvs hv1; have HST := hid hST; clear hST) | fail | still_step | (with_reducible refine wpStill_nil ?_) | (with_reducible refine Flow.Both.mk ?_ ?_) | (with_reducible exact True.intro) | (with_reducible refine Flow.same_mk rfl rfl rfl ?_; go_simp; done) | (with_reducible exact Flow.same_un rfl rfl rfl) | (refine Flow.region_still mixed ?hB ?_; (case hB => decide +kernel)))
            go_at_call 16
            refine Calls.named fun wc hwc => ?_
            have hST := St.fr HST.out (show Fr (fun _ => False) wS13 wc by rw [hwc]; (repeat' (first | with_reducible exact Fr.refl _ _ | with_reducible apply Fr.alloc | with_reducible apply Fr.drew | with_reducible apply Fr.drewN | (with_reducible refine Fr.setCell ?_ ?_ _))))
            clear HST hwc
            have HST := hid hST
            clear hST
            refine (step_is B _ ids m 0 wc HST.out.mr HG.out (by unfold evRoom; have := HEV.out; omega)).mono ?_
            rintro e w14 ⟨rfl, R14, hm14, hv14⟩
            have hST := HST.out.mv hm14 hv14
            clear hm14 hv14 HST
            rw [← HRES.out] at hST ⊢
            dsimp only [leakV] at hST ⊢
            have HST := hid hST
            clear hST
            go_wp2_with (first | ((with_reducible apply wpList_allocA (ty := 46) #[.int .i64 0, .int .i64 0, .int .i64 0, .int .i64 0]); (case zai => exact zLK); (case zac => rfl); intro wA hbA hfA hsA; have HBA := hid hbA; have HFA := hid hfA; clear hbA hfA hsA) | ((with_reducible apply wpList_storeA (b := w14.heap.size) (C := #[.int .i64 0, .int .i64 0, .int .i64 0, .int .i64 0]) (cells := #[.int .i64 kk, .int .i64 kt, .int .i64 kw, .int .i64 kn]) (T := 46)); (case zsx => rfl); (case zsy => rfl); (case zsn => rfl); (case zsi => exact szLK); (case zs1 => rfl); (case zsb => exact HBA.out); intro wS14 hbS hfS hsS; have hST := St.new HST.out (fr_made HFA.out hfS (Nat.le_refl _)) hbS (Nat.le_refl _); clear HST HBA HFA hbS hfS hsS; have HST := hid hST; clear hST) | still_step | (with_reducible refine wpStill_nil ?_) | (with_reducible refine Flow.Both.mk ?_ ?_) | (with_reducible exact True.intro) | (with_reducible refine Flow.same_mk rfl rfl rfl ?_; go_simp; done) | (with_reducible exact Flow.same_un rfl rfl rfl) | (refine Flow.region_still mixed ?hB ?_; (case hB => decide +kernel)))
            have HT17 := hid (show T1.regs.length = 16 by have := regs16 HST.out.mr 0; rw [HT1.out] at this; exact this)
            go_at_call 23
            refine Calls.named fun wc hwc => ?_
            have hST := St.fr HST.out (show Fr (fun _ => False) wS14 wc by rw [hwc]; (repeat' (first | with_reducible exact Fr.refl _ _ | with_reducible apply Fr.alloc | with_reducible apply Fr.drew | with_reducible apply Fr.drewN | (with_reducible refine Fr.setCell ?_ ?_ _))))
            clear HST hwc
            have HST := hid hST
            clear hST
            have hti := thread_is B _ ids m1 0 wc HST.out.mr
            have h16 := regs16 HST.out.mr 0
            rw [HT1.out] at hti h16
            refine hti.mono ?_
            rintro e w16 ⟨ta16, tc16, rfl, ho16, hf16⟩
            obtain ⟨L16, hLa, hLb⟩ := own_row ho16
            have hST := (St.fr HST.out hf16).add (fun e he => ⟨(hLa e he).1, fun hr => by have h1 := HST.out.mr.lt _ hr; have h2 := (hLa e he).2; (try dsimp only at h2); omega⟩)
            have HO16 := hid hLb
            clear HST hLa hLb ho16 hf16 hti
            have HST := hid hST
            obtain ⟨vl16, hvl⟩ : ∃ vl, vl = (standV T1 ta16 tc16).toArray := ⟨_, rfl⟩
            have hsd := stand_of _ ta16 tc16 h16
            rw [← hvl] at hsd ⊢
            have hvs := hsd.size
            have hv1 := hsd.one
            have HSD16 := hid hsd
            clear hST hvl hsd h16
            go_wp2_with (first | ((with_reducible apply wpList_allocA (ty := 71) (standV noTh none 0).toArray); (case zai => exact zTHR); (case zac => rfl); intro wA hbA hfA hsA; have HBA := hid hbA; have HFA := hid hfA; clear hbA hfA hsA) | ((with_reducible apply wpList_storeA (b := w16.heap.size) (C := (standV noTh none 0).toArray) (cells := vl16) (T := 71)); (case zsx => rfl); (case zsy => rfl); (case zsn => exact hvs); (case zsi => rw [hvs]; exact szTHR); (case zs1 => exact hv1); (case zsb => exact HBA.out); intro wS16 hbS hfS hsS; have hST := St.new HST.out (fr_made HFA.out hfS (Nat.le_refl _)) hbS (Nat.le_refl _); clear HST HBA HFA hbS hfS hsS hvs hv1; have HST := hid hST; clear hST) | ((with_reducible apply wpList_loadA (b := w13.heap.size) (C := vl13) (T := 71)); (case zlx => rfl); (case zlu => exact unTHR.choose_spec.1); (case zld => exact unTHR.choose_spec.2); (case zli => rw [HSD13.out.size]; exact szTHR); (case zlb => exact HST.out.get (by simp))) | still_step | (with_reducible refine wpStill_nil ?_) | (with_reducible refine Flow.Both.mk ?_ ?_) | (with_reducible exact True.intro) | (with_reducible refine Flow.same_mk rfl rfl rfl ?_; go_simp; done) | (with_reducible exact Flow.same_un rfl rfl rfl) | (refine Flow.region_still mixed ?hB ?_; (case hB => decide +kernel)))
            go_at_call 24
            refine Calls.named fun wc hwc => ?_
            have hST := St.fr HST.out (show Fr (fun _ => False) wS16 wc by rw [hwc]; (repeat' (first | with_reducible exact Fr.refl _ _ | with_reducible apply Fr.alloc | with_reducible apply Fr.drew | with_reducible apply Fr.drewN | (with_reducible refine Fr.setCell ?_ ?_ _))))
            clear HST hwc
            have HST := hid hST
            clear hST
            have hpi := put_is B _ _ ids m1 0 T ta13 tc13 wc HST.out.mr HT16.out (HO13.out wc (fun e he => (HST.out.keep e (by simp [he])).1)).vw (fun z hz hr => by obtain ⟨e, he, rfl⟩ := hz; exact (HST.out.keep e (by simp [he])).2 hr) (by have := HTW.out; omega)
            rw [← HSD13.out.eq] at hpi
            refine hpi.mono ?_
            rintro e w95 ⟨rfl, R95, hm95, hv95⟩
            have hST := HST.out.mv hm95 hv95
            clear hm95 hv95 HST hpi
            rw [HP.out] at hST
            have HST := hid hST
            clear hST
            go_wp2_with (first | fail | still_step | (with_reducible refine wpStill_nil ?_) | (with_reducible refine Flow.Both.mk ?_ ?_) | (with_reducible exact True.intro) | (with_reducible refine Flow.same_mk rfl rfl rfl ?_; go_simp; done) | (with_reducible exact Flow.same_un rfl rfl rfl) | (refine Flow.region_still mixed ?hB ?_; (case hB => decide +kernel)))
            go_at_call 23
            refine Calls.named fun wc hwc => ?_
            have hST := St.fr HST.out (show Fr (fun _ => False) w95 wc by rw [hwc]; (repeat' (first | with_reducible exact Fr.refl _ _ | with_reducible apply Fr.alloc | with_reducible apply Fr.drew | with_reducible apply Fr.drewN | (with_reducible refine Fr.setCell ?_ ?_ _))))
            clear HST hwc
            have HST := hid hST
            clear hST
            have hti := thread_is B _ ids m 0 wc HST.out.mr
            have h16 := regs16 HST.out.mr 0
            rw [HT.out] at hti h16
            refine hti.mono ?_
            rintro e w17 ⟨ta17, tc17, rfl, ho17, hf17⟩
            obtain ⟨L17, hLa, hLb⟩ := own_row ho17
            have hST := (St.fr HST.out hf17).add (fun e he => ⟨(hLa e he).1, fun hr => by have h1 := HST.out.mr.lt _ hr; have h2 := (hLa e he).2; (try dsimp only at h2); omega⟩)
            have HO17 := hid hLb
            clear HST hLa hLb ho17 hf17 hti
            have HST := hid hST
            obtain ⟨vl17, hvl⟩ : ∃ vl, vl = (standV T ta17 tc17).toArray := ⟨_, rfl⟩
            have hsd := stand_of _ ta17 tc17 h16
            rw [← hvl] at hsd ⊢
            have hvs := hsd.size
            have hv1 := hsd.one
            have HSD17 := hid hsd
            clear hST hvl hsd h16
            go_wp2_with (first | ((with_reducible apply wpList_allocA (ty := 71) (standV noTh none 0).toArray); (case zai => exact zTHR); (case zac => rfl); intro wA hbA hfA hsA; have HBA := hid hbA; have HFA := hid hfA; clear hbA hfA hsA) | ((with_reducible apply wpList_storeA (b := w17.heap.size) (C := (standV noTh none 0).toArray) (cells := vl17) (T := 71)); (case zsx => rfl); (case zsy => rfl); (case zsn => exact hvs); (case zsi => rw [hvs]; exact szTHR); (case zs1 => exact hv1); (case zsb => exact HBA.out); intro wS17 hbS hfS hsS; have hST := St.new HST.out (fr_made HFA.out hfS (Nat.le_refl _)) hbS (Nat.le_refl _); clear HST HBA HFA hbS hfS hsS hvs hv1; have HST := hid hST; clear hST) | fail | still_step | (with_reducible refine wpStill_nil ?_) | (with_reducible refine Flow.Both.mk ?_ ?_) | (with_reducible exact True.intro) | (with_reducible refine Flow.same_mk rfl rfl rfl ?_; go_simp; done) | (with_reducible exact Flow.same_un rfl rfl rfl) | (refine Flow.region_still mixed ?hB ?_; (case hB => decide +kernel)))
            go_at_call 16
            refine Calls.named fun wc hwc => ?_
            have hST := St.fr HST.out (show Fr (fun _ => False) wS17 wc by rw [hwc]; (repeat' (first | with_reducible exact Fr.refl _ _ | with_reducible apply Fr.alloc | with_reducible apply Fr.drew | with_reducible apply Fr.drewN | (with_reducible refine Fr.setCell ?_ ?_ _))))
            clear HST hwc
            have HST := hid hST
            clear hST
            refine (step_is B _ ids m 0 wc HST.out.mr HG.out (by unfold evRoom; have := HEV.out; omega)).mono ?_
            rintro e w18 ⟨rfl, R18, hm18, hv18⟩
            have hST := HST.out.mv hm18 hv18
            clear hm18 hv18 HST
            rw [← HRES.out] at hST ⊢
            dsimp only [leakV] at hST ⊢
            have HST := hid hST
            clear hST
            go_wp2_with (first | ((with_reducible apply wpList_allocA (ty := 46) #[.int .i64 0, .int .i64 0, .int .i64 0, .int .i64 0]); (case zai => exact zLK); (case zac => rfl); intro wA hbA hfA hsA; have HBA := hid hbA; have HFA := hid hfA; clear hbA hfA hsA) | ((with_reducible apply wpList_storeA (b := w18.heap.size) (C := #[.int .i64 0, .int .i64 0, .int .i64 0, .int .i64 0]) (cells := #[.int .i64 kk, .int .i64 kt, .int .i64 kw, .int .i64 kn]) (T := 46)); (case zsx => rfl); (case zsy => rfl); (case zsn => rfl); (case zsi => exact szLK); (case zs1 => rfl); (case zsb => exact HBA.out); intro wS18 hbS hfS hsS; have hST := St.new HST.out (fr_made HFA.out hfS (Nat.le_refl _)) hbS (Nat.le_refl _); clear HST HBA HFA hbS hfS hsS; have HST := hid hST; clear hST) | still_step | (with_reducible refine wpStill_nil ?_) | (with_reducible refine Flow.Both.mk ?_ ?_) | (with_reducible exact True.intro) | (with_reducible refine Flow.same_mk rfl rfl rfl ?_; go_simp; done) | (with_reducible exact Flow.same_un rfl rfl rfl) | (refine Flow.region_still mixed ?hB ?_; (case hB => decide +kernel)))
            go_at_call 23
            refine Calls.named fun wc hwc => ?_
            have hST := St.fr HST.out (show Fr (fun _ => False) wS18 wc by rw [hwc]; (repeat' (first | with_reducible exact Fr.refl _ _ | with_reducible apply Fr.alloc | with_reducible apply Fr.drew | with_reducible apply Fr.drewN | (with_reducible refine Fr.setCell ?_ ?_ _))))
            clear HST hwc
            have HST := hid hST
            clear hST
            have hti := thread_is B _ ids m1 0 wc HST.out.mr
            have h16 := regs16 HST.out.mr 0
            rw [HT1.out] at hti h16
            refine hti.mono ?_
            rintro e w20 ⟨ta20, tc20, rfl, ho20, hf20⟩
            obtain ⟨L20, hLa, hLb⟩ := own_row ho20
            have hST := (St.fr HST.out hf20).add (fun e he => ⟨(hLa e he).1, fun hr => by have h1 := HST.out.mr.lt _ hr; have h2 := (hLa e he).2; (try dsimp only at h2); omega⟩)
            have HO20 := hid hLb
            clear HST hLa hLb ho20 hf20 hti
            have HST := hid hST
            obtain ⟨vl20, hvl⟩ : ∃ vl, vl = (standV T1 ta20 tc20).toArray := ⟨_, rfl⟩
            have hsd := stand_of _ ta20 tc20 h16
            rw [← hvl] at hsd ⊢
            have hvs := hsd.size
            have hv1 := hsd.one
            have HSD20 := hid hsd
            clear hST hvl hsd h16
            go_wp2_with (first | ((with_reducible apply wpList_allocA (ty := 71) (standV noTh none 0).toArray); (case zai => exact zTHR); (case zac => rfl); intro wA hbA hfA hsA; have HBA := hid hbA; have HFA := hid hfA; clear hbA hfA hsA) | ((with_reducible apply wpList_storeA (b := w20.heap.size) (C := (standV noTh none 0).toArray) (cells := vl20) (T := 71)); (case zsx => rfl); (case zsy => rfl); (case zsn => exact hvs); (case zsi => rw [hvs]; exact szTHR); (case zs1 => exact hv1); (case zsb => exact HBA.out); intro wS20 hbS hfS hsS; have hST := St.new HST.out (fr_made HFA.out hfS (Nat.le_refl _)) hbS (Nat.le_refl _); clear HST HBA HFA hbS hfS hsS hvs hv1; have HST := hid hST; clear hST) | fail | still_step | (with_reducible refine wpStill_nil ?_) | (with_reducible refine Flow.Both.mk ?_ ?_) | (with_reducible exact True.intro) | (with_reducible refine Flow.same_mk rfl rfl rfl ?_; go_simp; done) | (with_reducible exact Flow.same_un rfl rfl rfl) | (refine Flow.region_still mixed ?hB ?_; (case hB => decide +kernel)))
            rw [show Instr.makeSlice 69 (Value.int IntKind.i64 5) (Value.int IntKind.i64 5) = Instr.makeSlice 69 (Value.int IntKind.i64 ((5 : Nat) : Int)) (Value.int IntKind.i64 ((5 : Nat) : Int)) from rfl, run_makeG Try.underlying69 infoENT 5 (by omega) (by omega)]
            simp only [Result.andThen, Oper.upon]
            obtain ⟨wM, hwM⟩ : ∃ wM, wM = wS20.alloc (.cells (madeCells (Value.agg #[.int .i64 0, .int .i64 0]).cells (5 * 2)) 74) := ⟨_, rfl⟩
            rw [← hwM]
            have hfM : Fr (fun _ => False) wS20 wM := by rw [hwM]; (repeat' (first | with_reducible exact Fr.refl _ _ | with_reducible apply Fr.alloc | with_reducible apply Fr.drew | with_reducible apply Fr.drewN | (with_reducible refine Fr.setCell ?_ ?_ _)))
            have hbM : Blk wM wS20.heap.size (madeCells (Value.agg #[.int .i64 0, .int .i64 0]).cells (5 * 2)) 74 := by rw [hwM]; exact Blk.new _ _ _
            have hST := St.new HST.out hfM hbM (Nat.le_refl _)
            clear HST hfM hbM hwM
            have HST := hid hST
            clear hST
            go_wp2_with (first | fail | still_step | (with_reducible refine wpStill_nil ?_) | (with_reducible refine Flow.Both.mk ?_ ?_) | (with_reducible exact True.intro) | (with_reducible refine Flow.same_mk rfl rfl rfl ?_; go_simp; done) | (with_reducible exact Flow.same_un rfl rfl rfl) | (refine Flow.region_still mixed ?hB ?_; (case hB => decide +kernel)))
            go_at_call 24
            refine Calls.named fun wc hwc => ?_
            have hST := St.fr HST.out (show Fr (fun _ => False) wM wc by rw [hwc]; (repeat' (first | with_reducible exact Fr.refl _ _ | with_reducible apply Fr.alloc | with_reducible apply Fr.drew | with_reducible apply Fr.drewN | (with_reducible refine Fr.setCell ?_ ?_ _))))
            clear HST hwc
            have HST := hid hST
            clear hST
            have hbm : Blk wc wS20.heap.size (madeCells (Value.agg #[.int .i64 0, .int .i64 0]).cells (5 * 2)) 74 := HST.out.get (List.mem_cons_self ..)
            have hvm := Vw.of_blk (sz := 2) (n := 5) (R := fun z => z = wS20.heap.size) hbm rfl (by rw [size_madeCells])
            rw [made5] at hvm
            have hpi := put_is B _ (fun z => z = wS20.heap.size) ids m1 0 ⟨[], 0, List.replicate 16 0, List.replicate 5 (0, 0), false⟩ (some ⟨wS20.heap.size, 0, none⟩) 5 wc HST.out.mr rfl hvm (fun z hz hr => by subst hz; exact (HST.out.keep _ (List.mem_cons_self ..)).2 hr) (by simp)
            refine hpi.mono ?_
            rintro e w96 ⟨rfl, R96, hm96, hv96⟩
            rw [put_big (by dsimp only; have := HEV1.out; simp; omega)] at hm96
            have hST := HST.out.mv hm96 hv96
            clear hm96 hv96 HST hpi hvm hbm
            have HST := hid hST
            clear hST
            go_wp2_with (first | ((with_reducible apply wpList_loadA (b := w13.heap.size) (C := vl13) (T := 71)); (case zlx => rfl); (case zlu => exact unTHR.choose_spec.1); (case zld => exact unTHR.choose_spec.2); (case zli => rw [HSD13.out.size]; exact szTHR); (case zlb => exact HST.out.get (by simp))) | still_step | (with_reducible refine wpStill_nil ?_) | (with_reducible refine Flow.Both.mk ?_ ?_) | (with_reducible exact True.intro) | (with_reducible refine Flow.same_mk rfl rfl rfl ?_; go_simp; done) | (with_reducible exact Flow.same_un rfl rfl rfl) | (refine Flow.region_still mixed ?hB ?_; (case hB => decide +kernel)))
            go_at_call 24
            refine Calls.named fun wc hwc => ?_
            have hST := St.fr HST.out (show Fr (fun _ => False) w96 wc by rw [hwc]; (repeat' (first | with_reducible exact Fr.refl _ _ | with_reducible apply Fr.alloc | with_reducible apply Fr.drew | with_reducible apply Fr.drewN | (with_reducible refine Fr.setCell ?_ ?_ _))))
            clear HST hwc
            have HST := hid hST
            clear hST
            have hpi := put_is B _ _ ids m1 (-1) T ta13 tc13 wc HST.out.mr HT16.out (HO13.out wc (fun e he => (HST.out.keep e (by simp [he])).1)).vw (fun z hz hr => by obtain ⟨e, he, rfl⟩ := hz; exact (HST.out.keep e (by simp [he])).2 hr) (by have := HTW.out; omega)
            rw [← HSD13.out.eq] at hpi
            refine hpi.mono ?_
            rintro e w97 ⟨rfl, R97, hm97, hv97⟩
            have hST := HST.out.mv hm97 hv97
            clear hm97 hv97 HST hpi
            rw [put_neg] at hST
            have HST := hid hST
            clear hST
            go_wp2_with (first | fail | still_step | (with_reducible refine wpStill_nil ?_) | (with_reducible refine Flow.Both.mk ?_ ?_) | (with_reducible exact True.intro) | (with_reducible refine Flow.same_mk rfl rfl rfl ?_; go_simp; done) | (with_reducible exact Flow.same_un rfl rfl rfl) | (refine Flow.region_still mixed ?hB ?_; (case hB => decide +kernel)))
            go_at_call 23
            refine Calls.named fun wc hwc => ?_
            have hST := St.fr HST.out (show Fr (fun _ => False) w97 wc by rw [hwc]; (repeat' (first | with_reducible exact Fr.refl _ _ | with_reducible apply Fr.alloc | with_reducible apply Fr.drew | with_reducible apply Fr.drewN | (with_reducible refine Fr.setCell ?_ ?_ _))))
            clear HST hwc
            have HST := hid hST
            clear hST
            have hti := thread_is B _ ids m1 0 wc HST.out.mr
            have h16 := regs16 HST.out.mr 0
            rw [HT1.out] at hti h16
            refine hti.mono ?_
            rintro e w21 ⟨ta21, tc21, rfl, ho21, hf21⟩
            obtain ⟨L21, hLa, hLb⟩ := own_row ho21
            have hST := (St.fr HST.out hf21).add (fun e he => ⟨(hLa e he).1, fun hr => by have h1 := HST.out.mr.lt _ hr; have h2 := (hLa e he).2; (try dsimp only at h2); omega⟩)
            have HO21 := hid hLb
            clear HST hLa hLb ho21 hf21 hti
            have HST := hid hST
            obtain ⟨vl21, hvl⟩ : ∃ vl, vl = (standV T1 ta21 tc21).toArray := ⟨_, rfl⟩
            have hsd := stand_of _ ta21 tc21 h16
            rw [← hvl] at hsd ⊢
            have hvs := hsd.size
            have hv1 := hsd.one
            have HSD21 := hid hsd
            clear hST hvl hsd h16
            go_wp2_with (first | ((with_reducible apply wpList_allocA (ty := 71) (standV noTh none 0).toArray); (case zai => exact zTHR); (case zac => rfl); intro wA hbA hfA hsA; have HBA := hid hbA; have HFA := hid hfA; clear hbA hfA hsA) | ((with_reducible apply wpList_storeA (b := w21.heap.size) (C := (standV noTh none 0).toArray) (cells := vl21) (T := 71)); (case zsx => rfl); (case zsy => rfl); (case zsn => exact hvs); (case zsi => rw [hvs]; exact szTHR); (case zs1 => exact hv1); (case zsb => exact HBA.out); intro wS21 hbS hfS hsS; have hST := St.new HST.out (fr_made HFA.out hfS (Nat.le_refl _)) hbS (Nat.le_refl _); clear HST HBA HFA hbS hfS hsS hvs hv1; have g14 := hST.get (b := w14.heap.size) (C := #[.int .i64 kk, .int .i64 kt, .int .i64 kw, .int .i64 kn]) (T := 46) (by simp); have a0 := g14.cell 0; have a1 := g14.cell 1; have a2 := g14.cell 2; have a3 := g14.cell 3; clear g14; have g18 := hST.get (b := w18.heap.size) (C := #[.int .i64 kk, .int .i64 kt, .int .i64 kw, .int .i64 kn]) (T := 46) (by simp); have b0 := g18.cell 0; have b1 := g18.cell 1; have b2 := g18.cell 2; have b3 := g18.cell 3; clear g18; have g13 := hST.get (b := w13.heap.size) (C := vl13) (T := 71) (by simp); have p13 := (g13.cell 0).trans HSD13.out.place; have q13 := (g13.cell 17).trans HSD13.out.wait; have G13 := hid g13; clear g13; have g16 := hST.get (b := w16.heap.size) (C := vl16) (T := 71) (by simp); have p16 := (g16.cell 0).trans HSD16.out.place; have q16 := (g16.cell 17).trans HSD16.out.wait; have G16 := hid g16; clear g16; have g17 := hST.get (b := w17.heap.size) (C := vl17) (T := 71) (by simp); have p17 := (g17.cell 0).trans HSD17.out.place; have q17 := (g17.cell 17).trans HSD17.out.wait; have G17 := hid g17; clear g17; have g20 := hST.get (b := w20.heap.size) (C := vl20) (T := 71) (by simp); have p20 := (g20.cell 0).trans HSD20.out.place; have q20 := (g20.cell 17).trans HSD20.out.wait; have G20 := hid g20; clear g20; have g21 := hST.get (b := w21.heap.size) (C := vl21) (T := 71) (by simp); have p21 := (g21.cell 0).trans HSD21.out.place; have q21 := (g21.cell 17).trans HSD21.out.wait; have G21 := hid g21; clear g21; have HST := hid hST; clear hST) | ((with_reducible apply wpList_loadG (b := w13.heap.size) (o := 1) (C := vl13) (T := 71) (ints T.regs)); (case zlw => rfl); (case zlx => rfl); (case zlu => exact unREGS.choose_spec.1); (case zld => exact unREGS.choose_spec.2); (case zli => rw [ints_length, HT16.out]; exact szREGS); (case zlb => exact G13.out); (case zlc => exact HSD13.out.all)) | ((with_reducible apply wpList_loadG (b := w16.heap.size) (o := 1) (C := vl16) (T := 71) (ints T1.regs)); (case zlw => rfl); (case zlx => rfl); (case zlu => exact unREGS.choose_spec.1); (case zld => exact unREGS.choose_spec.2); (case zli => rw [ints_length, HT17.out]; exact szREGS); (case zlb => exact G16.out); (case zlc => exact HSD16.out.all)) | ((with_reducible apply wpList_loadG (b := w17.heap.size) (o := 1) (C := vl17) (T := 71) (ints T.regs)); (case zlw => rfl); (case zlx => rfl); (case zlu => exact unREGS.choose_spec.1); (case zld => exact unREGS.choose_spec.2); (case zli => rw [ints_length, HT16.out]; exact szREGS); (case zlb => exact G17.out); (case zlc => exact HSD17.out.all)) | ((with_reducible apply wpList_loadG (b := w20.heap.size) (o := 1) (C := vl20) (T := 71) (ints T1.regs)); (case zlw => rfl); (case zlx => rfl); (case zlu => exact unREGS.choose_spec.1); (case zld => exact unREGS.choose_spec.2); (case zli => rw [ints_length, HT17.out]; exact szREGS); (case zlb => exact G20.out); (case zlc => exact HSD20.out.all)) | ((with_reducible apply wpList_eqRegs T.regs T.regs); (case zlw => rfl); (case zlx => rfl); (case zly => rfl); (case zll => exact HT16.out); (case zlm => exact HT16.out); simp only [decide_true]) | ((with_reducible apply wpList_eqRegs T1.regs T1.regs); (case zlw => rfl); (case zlx => rfl); (case zly => rfl); (case zll => exact HT17.out); (case zlm => exact HT17.out); simp only [decide_true]) | still_step | (with_reducible refine wpStill_nil ?_) | (with_reducible refine Flow.Both.mk ?_ ?_) | (with_reducible exact True.intro) | (with_reducible refine Flow.same_mk rfl rfl rfl ?_; go_simp; done) | (with_reducible exact Flow.same_un rfl rfl rfl) | (refine Flow.region_still mixed ?hB ?_; (case hB => decide +kernel)))

            go_ret
            exact ⟨rfl, HST.out.fr0⟩
end Go.Proofs.Ytfekjgkhagcjgaa.Tso
