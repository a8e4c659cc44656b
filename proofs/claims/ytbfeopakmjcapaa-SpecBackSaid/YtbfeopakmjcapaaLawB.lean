/-
  SpecBack: what a thread guessed, and took back, was not.
-/
import Derived.Test.YtbfeopakmjcapaaAwake29
import Derived.Test.YtbfeopakmjcapaaSmall29
import Derived.Test.YtbfeopakmjcapaaSpRow
import Derived.Test.YtbfeopakmjcapaaSpL4
set_option linter.unusedVariables false
namespace Go.Proofs.Ytbfeopakmjcapaa.Sp
open Go.RowKit Go.Proofs.Ytbfeopakmjcapaa.Seq Go.Proofs.Ytbfeopakmjcapaa.Tso
attribute [local irreducible] wpStill wpList Calls CallsIn

theorem backs_fits {s : SM} {e : Nat} (h : Fits s e) (n : Int) : ∀ j, Fits (backs s n j) (e + j)
  | 0 => h
  | j + 1 => (backs_fits h n j).doIt 4 n
theorem backs_window (s : SM) (n : Int) : ∀ j, (backs s n j).window = s.window
  | 0 => rfl
  | j + 1 => (do_window _ 4 n).trans (backs_window s n j)

/-- A guess of a thread is open that began where T stood. -/
def InW (s : SM) (who : Int) (T : Th) (mem : List Int) (ev : List Ev) : Prop := ∃ (k : Nat) (g : Gs), who = k ∧ InG s k g T.wait mem ev ∧ g.place = T.place ∧ g.regs = T.regs
/-- It was taken back. -/
structure OutW (s : SM) (who : Int) (T : Th) (mem : List Int) (ev : List Ev) : Prop where
  count : s.count who = 0
  mem : s.x.mem = mem
  ev : s.x.events = ev
  place : ((s.x.th who).getD noTh).place = T.place
  regs : ((s.x.th who).getD noTh).regs = T.regs
  wait : ((s.x.th who).getD noTh).wait = T.wait
theorem in_begun {s : SM} {e : Nat} {who kind : Int} {T : Th} (h : Fits s e) (hc : s.count who = 0) (hk : kind = 2 ∨ kind = 3) (hT : (s.x.th who).getD noTh = T) (his : (s.doIt kind who).2.2 = true) : InW (s.doIt kind who).1 who T s.x.mem s.x.events := by
  cases hg : s.guesses who with
  | none => unfold SM.doIt at his; rw [hg] at his; cases his
  | some o =>
    obtain ⟨k, rfl, ho⟩ := guesses_get hg
    obtain ⟨t, ht, _⟩ := h.ok.thread ho
    rw [th_nat ht] at hT
    obtain rfl : t = T := hT
    rw [count_eq ho] at hc
    exact ⟨k, _, rfl, begin_in h.ok ho ht (List.eq_nil_of_length_eq_zero hc) hk his, rfl, rfl⟩
theorem InW.count {s : SM} {who : Int} {T : Th} {mem : List Int} {ev : List Ev} (h : InW s who T mem ev) : 0 < s.count who := by
  obtain ⟨k, g, rfl, h, _⟩ := h
  exact h.count
theorem InW.doIt {s : SM} {e : Nat} {who kind : Int} {T : Th} {mem : List Int} {ev : List Ev} (h : InW s who T mem ev) (hf : Fits s e) (h1 : kind ≠ 1) (h4 : kind = 4 → 1 < s.count who) : InW (s.doIt kind who).1 who T mem ev := by
  obtain ⟨k, g, rfl, h, h5⟩ := h
  exact ⟨k, g, rfl, in_do hf.ok h h1 h4, h5⟩
theorem InW.sure {s : SM} {who : Int} {T : Th} {mem : List Int} {ev : List Ev} (h : InW s who T mem ev) : (s.sure who).place = T.place ∧ (s.sure who).regs = T.regs ∧ (s.sure who).wait.length = T.wait.length := by
  obtain ⟨k, g, rfl, h, h5, h6⟩ := h
  rw [← h5, ← h6]
  exact in_sure h
theorem InW.out {s : SM} {e : Nat} {who : Int} {T : Th} {mem : List Int} {ev : List Ev} (h : InW s who T mem ev) (hf : Fits s e) (hw : s.window = 9) : OutW (backs s who 20) who T mem ev := by
  obtain ⟨k, g, rfl, h, h5, h6⟩ := h
  have ho := backs_out hf.ok h (j := 20) (by rw [hw]; decide)
  obtain ⟨st, t, a1, a2, a3, a4, a5⟩ := ho.go
  refine ⟨ho.count, ho.mem, ho.ev, ?_, ?_, ?_⟩ <;> rw [th_nat a2]
  · exact a3.trans h5
  · exact a4.trans h6
  · exact a5
theorem pass_kind (p : Int) (h0 : 0 ≤ p) (h1 : p ≤ 255) : wrap64 (2 + wrap64 (bits BinOp.and IntKind.u8 p 1)) = 2 ∨ wrap64 (2 + wrap64 (bits BinOp.and IntKind.u8 p 1)) = 3 := by
  have key : ∀ n < 256, bits BinOp.and IntKind.u8 ((n : Nat) : Int) 1 = 0 ∨ bits BinOp.and IntKind.u8 ((n : Nat) : Int) 1 = 1 := by decide +kernel
  obtain ⟨n, rfl⟩ : ∃ n : Nat, p = n := ⟨p.toNat, by omega⟩
  rcases key n (by omega) with h | h <;> rw [h] <;> unfold wrap64 <;> omega

theorem Sts.name {w0 w : World} {R : Nat → Prop} {SB : Nat} {s : SM} {L : List (Nat × Array Value × TypeId)} (h : Sts w0 w R SB s L) : ∃ LL, LL = L ∧ Sts w0 w R SB s LL := ⟨_, rfl, h⟩

set_option linter.unusedSimpArgs false in
set_option maxHeartbeats 40000000 in
set_option maxRecDepth 100000 in
theorem back_walk (ao aa a1 a2 a3 : Option Addr) (co ac cap1 ca cg : Nat) (qs : List ((Option Addr × Nat) × List Ins)) (al : List (Int × Int × Bool)) (words locks : Int) (mem : List Int) (la lg : List (Int × Int)) (who pas : Int) (w : World)
    (hc : Codes w (fun k => k < w.heap.size) ao qs) (ha : Vw w 3 (fun k => k < w.heap.size) aa al.length (areaC al)) (hal : al.length ≤ 9223372036854775807) (hql : qs.length ≤ 9223372036854775807) (hi : ∀ q ∈ qs, q.2.length ≤ 9223372036854775807)
    (hm : Vw w 1 (fun k => k < w.heap.size) a1 mem.length (ints mem)) (hmn : a1 = none → mem.length = 0) (hml : mem.length ≤ 9223372036854775807) (hva : Vw w 2 (fun k => k < w.heap.size) a2 la.length (dosC la)) (hla : la.length ≤ 9223372036854775807)
    (hvg : Vw w 2 (fun k => k < w.heap.size) a3 lg.length (dosC lg)) (hlg : lg.length ≤ 9223372036854775807) (hp0 : 0 ≤ pas) (hp1 : pas ≤ 255) :
    Calls Try.prog 3 #[.agg #[.slice ao qs.length co, .slice aa al.length ac, .int .i64 words, .int .i64 locks], .slice a1 mem.length cap1, .agg #[.slice a2 la.length ca, .slice a3 lg.length cg, .int .i64 who, .int .u8 pas]] w fun e w' => e = .returned (.bool true) ∧ Fr (fun _ => False) w w' := by
  have HVA := hid hva
  have HVG := hid hvg
  clear hva hvg
  obtain ⟨LA, hLA⟩ : ∃ LA, LA = la.length := ⟨_, rfl⟩
  have HLA := hid hLA
  rw [← hLA] at hla ⊢
  obtain ⟨LG, hLG⟩ : ∃ LG, LG = lg.length := ⟨_, rfl⟩
  have HLG := hid hLG
  rw [← hLG] at hlg ⊢
  clear hLA hLG
  have HC := hid hc
  have HA := hid ha
  have HM := hid hm
  have HMN := hid hmn
  have HI := hid hi
  have hqal := hid (And.intro hql hal)
  clear hc ha hm hmn hi hql hal
  obtain ⟨QL, hQL⟩ : ∃ QL, QL = qs.length := ⟨_, rfl⟩
  have HQL := hid hQL
  rw [← hQL]
  obtain ⟨AL, hAL⟩ : ∃ AL, AL = al.length := ⟨_, rfl⟩
  have HAL := hid hAL
  rw [← hAL]
  obtain ⟨ML, hML⟩ : ∃ ML, ML = mem.length := ⟨_, rfl⟩
  have HML := hid hML
  rw [← hML] at hml ⊢
  clear hQL hAL hML
  have HX := hid (Blk.new w #[.slice ao QL co, .slice aa AL ac, .int .i64 words, .int .i64 locks] 25)
  go_enter Try.func3, Try.ntmps3
  go_wp2_with (first | fail | still_step | (with_reducible refine wpStill_nil ?_) | (with_reducible refine Flow.Both.mk ?_ ?_) | (with_reducible exact True.intro) | (with_reducible refine Flow.same_mk rfl rfl rfl ?_; go_simp; done) | (with_reducible exact Flow.same_un rfl rfl rfl) | (refine Flow.region_still mixed ?hB ?_; (case hB => decide +kernel)))
  go_at_call 10
  refine Calls.named fun wc hwc => ?_
  have hfc : Fr (fun _ => False) w wc := by rw [hwc]; (repeat' (first | with_reducible exact Fr.refl _ _ | with_reducible apply Fr.alloc | with_reducible apply Fr.drew | with_reducible apply Fr.drewN | (with_reducible refine Fr.setCell ?_ ?_ _)))
  have hxc : Blk wc w.heap.size #[.slice ao QL co, .slice aa AL ac, .int .i64 words, .int .i64 locks] 25 := by rw [hwc]; (repeat (first | exact HX.out | with_reducible apply Blk.drew | with_reducible apply Blk.alloc))
  have hyc : Blk wc (w.heap.size + 1) #[.slice a2 LA ca, .slice a3 LG cg, .int .i64 who, .int .u8 pas] 29 := by rw [hwc]; (repeat (first | exact Blk.new' (by simp) | with_reducible apply Blk.drew | with_reducible apply Blk.alloc))
  refine (awake29_true _).mono ?_
  rintro e w1 ⟨rfl, hf1⟩
  have HF1 := hid (hfc.trans hf1 (fun _ _ h => h))
  have hx1 := hxc.fr hf1 (fun h => h)
  have c0_i := Blk.cell hx1 0
  have f0_i := Blk.free hx1 0
  have c1_i := Blk.cell hx1 1
  have f1_i := Blk.free hx1 1
  have c2_i := Blk.cell hx1 2
  have f2_i := Blk.free hx1 2
  have c3_i := Blk.cell hx1 3
  have f3_i := Blk.free hx1 3
  have l_i := Blk.lt hx1
  have HX1 := hid hx1
  have HY1 := hid (hyc.fr hf1 (fun h => h))
  have HC1 := hid (HC.out.fr HF1.out (fun _ _ h => h))
  have HA1 := hid (HA.out.fr HF1.out (fun _ _ h => h))
  clear hf1 HX hx1 hwc hfc hxc hyc
  go_wp2_with (first | fail | still_step | (with_reducible refine wpStill_nil ?_) | (with_reducible refine Flow.Both.mk ?_ ?_) | (with_reducible exact True.intro) | (with_reducible refine Flow.same_mk rfl rfl rfl ?_; go_simp; done) | (with_reducible exact Flow.same_un rfl rfl rfl) | (refine Flow.region_still mixed ?hB ?_; (case hB => decide +kernel)))
  go_at_call 11
  rw [HQL.out, HAL.out]
  refine (small29_is _ _ ao aa co ac qs al words locks w1 HC1.out HA1.out hqal.out.2 hqal.out.1 HI.out).mono ?_
  rintro e w2 ⟨few, rfl, hfew, hf2⟩
  have HFEW := hid hfew
  have HF2 := hid (HF1.out.trans hf2 (fun _ _ h => h))
  have hx2 := HX1.out.fr hf2 (fun h => h)
  have hy2 := HY1.out.fr hf2 (fun h => h)
  have HY2 := hid hy2
  clear c0_i f0_i c1_i f1_i c2_i f2_i c3_i f3_i l_i
  have c0_i := Blk.cell hx2 0
  have f0_i := Blk.free hx2 0
  have c1_i := Blk.cell hx2 1
  have f1_i := Blk.free hx2 1
  have c2_i := Blk.cell hx2 2
  have f2_i := Blk.free hx2 2
  have c3_i := Blk.cell hx2 3
  have f3_i := Blk.free hx2 3
  have l_i := Blk.lt hx2
  have c0_b := Blk.cell hy2 0
  have f0_b := Blk.free hy2 0
  have c1_b := Blk.cell hy2 1
  have f1_b := Blk.free hy2 1
  have c2_b := Blk.cell hy2 2
  have f2_b := Blk.free hy2 2
  have c3_b := Blk.cell hy2 3
  have f3_b := Blk.free hy2 3
  have l_b := Blk.lt hy2
  clear hf2 hfew HX1 hx2 hy2 HF1 HC1 HA1 HY1
  cases few with
  | false =>
    go_wp2_with (first | fail | still_step | (with_reducible refine wpStill_nil ?_) | (with_reducible refine Flow.Both.mk ?_ ?_) | (with_reducible exact True.intro) | (with_reducible refine Flow.same_mk rfl rfl rfl ?_; go_simp; done) | (with_reducible exact Flow.same_un rfl rfl rfl) | (refine Flow.region_still mixed ?hB ?_; (case hB => decide +kernel)))
    go_ret
    exact ⟨rfl, HF2.out⟩
  | true =>
    obtain ⟨hg, hwd, hln⟩ := HFEW.out rfl
    have hql4 : qs.length ≤ 4 := hg.1
    by_cases hm3 : 300 < ML
    · go_wp2_with (first | fail | still_step | (with_reducible refine wpStill_nil ?_) | (with_reducible refine Flow.Both.mk ?_ ?_) | (with_reducible exact True.intro) | (with_reducible refine Flow.same_mk rfl rfl rfl ?_; go_simp; done) | (with_reducible exact Flow.same_un rfl rfl rfl) | (refine Flow.region_still mixed ?hB ?_; (case hB => decide +kernel)))
      go_ret
      exact ⟨rfl, HF2.out⟩
    by_cases hl6 : 60 < LA
    · go_wp2_with (first | fail | still_step | (with_reducible refine wpStill_nil ?_) | (with_reducible refine Flow.Both.mk ?_ ?_) | (with_reducible exact True.intro) | (with_reducible refine Flow.same_mk rfl rfl rfl ?_; go_simp; done) | (with_reducible exact Flow.same_un rfl rfl rfl) | (refine Flow.region_still mixed ?hB ?_; (case hB => decide +kernel)))
      go_ret
      exact ⟨rfl, HF2.out⟩
    by_cases hl7 : 60 < LG
    · go_wp2_with (first | fail | still_step | (with_reducible refine wpStill_nil ?_) | (with_reducible refine Flow.Both.mk ?_ ?_) | (with_reducible exact True.intro) | (with_reducible refine Flow.same_mk rfl rfl rfl ?_; go_simp; done) | (with_reducible exact Flow.same_un rfl rfl rfl) | (refine Flow.region_still mixed ?hB ?_; (case hB => decide +kernel)))
      go_ret
      exact ⟨rfl, HF2.out⟩
    by_cases hq0 : QL = 0
    · subst hq0
      go_wp2_with (first | fail | still_step | (with_reducible refine wpStill_nil ?_) | (with_reducible refine Flow.Both.mk ?_ ?_) | (with_reducible exact True.intro) | (with_reducible refine Flow.same_mk rfl rfl rfl ?_; go_simp; done) | (with_reducible exact Flow.same_un rfl rfl rfl) | (refine Flow.region_still mixed ?hB ?_; (case hB => decide +kernel)))
      go_ret
      exact ⟨rfl, HF2.out⟩
    have hq0' : ((QL : Int) == 0) = false := by simpa using (show ¬ ((QL : Int) = 0) by omega)
    have hy2 := HY2.out
    have HG := hid hg
    have HLN := hid hln
    obtain ⟨words, rfl⟩ : ∃ n : Nat, words = n := ⟨words.toNat, by have := hg.2.2.2.1; omega⟩
    obtain ⟨locks, rfl⟩ : ∃ n : Nat, locks = n := ⟨locks.toNat, by have := hg.2.1; omega⟩
    have hlk8 : locks ≤ 8 := by have := hg.2.2.1; omega
    clear hg hln HFEW
    go_wp2_with (first | fail | still_step | (with_reducible refine wpStill_nil ?_) | (with_reducible refine Flow.Both.mk ?_ ?_) | (with_reducible exact True.intro) | (with_reducible refine Flow.same_mk rfl rfl rfl ?_; go_simp; done) | (with_reducible exact Flow.same_un rfl rfl rfl) | (refine Flow.region_still mixed ?hB ?_; (case hB => decide +kernel)))
    go_at_call 12
    rw [HQL.out, HML.out]
    refine Calls.named fun wc hwc => ?_
    have hfc : Fr (fun _ => False) w2 wc := by rw [hwc]; (repeat' (first | with_reducible exact Fr.refl _ _ | with_reducible apply Fr.alloc | with_reducible apply Fr.drew | with_reducible apply Fr.drewN | (with_reducible refine Fr.setCell ?_ ?_ _)))
    have HF3 := hid (HF2.out.trans hfc (fun _ _ h => h))
    refine (snew_is (fun k => k < w.heap.size) (fun k => k < w.heap.size) ao a1 aa co cap1 AL ac qs words locks 4 9 mem wc (HC.out.fr HF3.out (fun _ _ h => h)) (HM.out.fr HF3.out (fun _ _ h => h)) HMN.out (by omega) (by have := HML.out; omega) (fun q hq => by have := HLN.out q hq; omega) (by omega) hlk8 (by omega) (by omega)).mono ?_
    rintro e w3 ⟨SB, rfl, hs3, hf3⟩
    obtain ⟨s0, hs0⟩ : ∃ x, x = startS (qs.map (·.2)) words mem locks 4 9 := ⟨_, rfl⟩
    rw [← hs0] at hs3
    have hft : Fits s0 0 := by
      rw [hs0]
      refine start_fits (fun c hc i hi => ?_) (by omega) (by omega) (by omega)
      obtain ⟨q, hq, rfl⟩ := List.mem_map.1 hc
      exact HG.out.2.2.2.2.2 q hq i hi
    have hwin0 : s0.window = 9 := by rw [hs0]; rfl
    have HFT := hid hft
    have HSZ := hid hs0
    have HWIN := hid hwin0
    have hy3 := hy2.fr (hfc.trans hf3 (fun _ _ h => h)) (fun h => h)
    have HS0 := hid (show Sts w w3 _ SB s0 [(w.heap.size + 1, #[.slice a2 LA ca, .slice a3 LG cg, .int .i64 who, .int .u8 pas], 29)] from ⟨hs3, fun e he => (by rw [List.mem_singleton] at he; subst he; exact ⟨hy3, fun hr => by have h1 := hr.1; have h2 := hy2.lt; have h3 := hfc.size; dsimp only at h1; omega⟩), HF3.out.trans hf3 (fun _ _ h => h), fun z hz => by have := HF3.out.size; exact Nat.le_trans this hz.1⟩)
    clear c0_i f0_i c1_i f1_i c2_i f2_i c3_i f3_i l_i hf3 hs3 hs0 hft hwin0 hwc hfc HF3 hy2 hy3 c0_b f0_b c1_b f1_b c2_b f2_b c3_b f3_b l_b
    clear HG HLN HQL HAL HML hqal hlk8 hwd hql4 hm3 HC HA HM HMN HI HF2 HY2 hq0 hq0'
    go_wp2_with (first | fail | still_step | (with_reducible refine wpStill_nil ?_) | (with_reducible refine Flow.Both.mk ?_ ?_) | (with_reducible exact True.intro) | (with_reducible refine Flow.same_mk rfl rfl rfl ?_; go_simp; done) | (with_reducible exact Flow.same_un rfl rfl rfl) | (refine Flow.region_still mixed ?hB ?_; (case hB => decide +kernel)))
    go_loopw [10] (fun i wr => ∃ (k : Nat) (R : Nat → Prop) (s : SM), k ≤ LA ∧ i = .int .i64 k ∧ Sts w wr R SB s [(w.heap.size + 1, #[.slice a2 LA ca, .slice a3 LG cg, .int .i64 who, .int .u8 pas], 29)] ∧ Fits s k ∧ s.window = 9) (fun i _ => LA - (intOf i).toNat)
    case atStart => exact ⟨0, _, _, Nat.zero_le _, rfl, HS0.out, HFT.out, HWIN.out⟩
    case round =>
      obtain ⟨k, R, s, hk, rfl, hst, hfit, hwin⟩ := hrel
      have HST := hid hst
      have HF := hid hfit
      have HW := hid hwin
      clear hst hfit HS0 HFT HWIN hwin
      by_cases hlt : k < LA
      · have hkl : k < la.length := by have := HLA.out; omega
        have hne : dosC la ≠ [] := fun h => by have := congrArg List.length h; rw [dosC_length] at this; simp only [List.length_nil] at this; omega
        obtain ⟨r0, off0, rfl, hr0, hcell⟩ := (HVA.out.fr HST.out.fr0 (fun _ _ h => h)).cell hne
        have c0 : wr.cell? ⟨r0, off0 + k * 2, none⟩ = some (.int .i64 la[k].1) := hcell (k * 2) _ (dosC_get la k hkl).1
        have c1 : wr.cell? ⟨r0, off0 + k * 2 + 1, none⟩ = some (.int .i64 la[k].2) := hcell (k * 2 + 1) _ (dosC_get la k hkl).2
        clear hcell hne
        generalize la[k] = d at *
        obtain ⟨kind, w5⟩ := d
        dsimp only at c0 c1
        have hbx := HST.out.get (b := w.heap.size + 1) (C := #[.slice (some ⟨r0, off0, none⟩) LA ca, .slice a3 LG cg, .int .i64 who, .int .u8 pas]) (T := 29) (by simp)
        have c0_b := Blk.cell hbx 0
        have f0_b := Blk.free hbx 0
        have c1_b := Blk.cell hbx 1
        have f1_b := Blk.free hbx 1
        have c2_b := Blk.cell hbx 2
        have f2_b := Blk.free hbx 2
        have c3_b := Blk.cell hbx 3
        have f3_b := Blk.free hbx 3
        have l_b := Blk.lt hbx
        clear hbx
        go_wp2_with (first | fail | still_step | (with_reducible refine wpStill_nil ?_) | (with_reducible refine Flow.Both.mk ?_ ?_) | (with_reducible exact True.intro) | (with_reducible refine Flow.same_mk rfl rfl rfl ?_; go_simp; done) | (with_reducible exact Flow.same_un rfl rfl rfl) | (refine Flow.region_still mixed ?hB ?_; (case hB => decide +kernel)))
        go_at_call 13
        refine Calls.named fun wc hwc => ?_
        have hST := Sts.fr HST.out (show Fr (fun _ => False) wr wc by rw [hwc]; (repeat' (first | with_reducible exact Fr.refl _ _ | with_reducible apply Fr.alloc | with_reducible apply Fr.drew | with_reducible apply Fr.drewN | (with_reducible refine Fr.setCell ?_ ?_ _))))
        clear HST hwc
        have HST := hid hST
        clear hST
        refine (do_is SB _ (s) (kind) (w5) wc HST.out.sr HF.out.ok (HF.out.room (by omega)) HF.out.mem).mono ?_
        rintro e w4 ⟨rfl, R4, hm4, hv4⟩
        have hST := HST.out.mv hm4 hv4
        clear hm4 hv4 HST
        have HST := hid hST
        clear hST
        clear c0_b f0_b c1_b f1_b c2_b f2_b c3_b f3_b l_b
        clear c0 c1
        go_wp2_with (first | fail | still_step | (with_reducible refine wpStill_nil ?_) | (with_reducible refine Flow.Both.mk ?_ ?_) | (with_reducible exact True.intro) | (with_reducible refine Flow.same_mk rfl rfl rfl ?_; go_simp; done) | (with_reducible exact Flow.same_un rfl rfl rfl) | (refine Flow.region_still mixed ?hB ?_; (case hB => decide +kernel)))
        go_roundw
        case rel => exact ⟨k + 1, R4, _, by omega, by go_num, Sts.fr HST.out (show Fr (fun _ => False) w4 _ by (repeat' (first | with_reducible exact Fr.refl _ _ | with_reducible apply Fr.alloc | with_reducible apply Fr.drew | with_reducible apply Fr.drewN | (with_reducible refine Fr.setCell ?_ ?_ _)))), HF.out.doIt kind w5, (do_window _ _ _).trans HW.out⟩
        case measure => simp [intOf]; omega
      · obtain rfl : LA = k := by omega
        have hbx := HST.out.get (b := w.heap.size + 1) (C := #[.slice a2 LA ca, .slice a3 LG cg, .int .i64 who, .int .u8 pas]) (T := 29) (by simp)
        have c0_b := Blk.cell hbx 0
        have f0_b := Blk.free hbx 0
        have c1_b := Blk.cell hbx 1
        have f1_b := Blk.free hbx 1
        have c2_b := Blk.cell hbx 2
        have f2_b := Blk.free hbx 2
        have c3_b := Blk.cell hbx 3
        have f3_b := Blk.free hbx 3
        have l_b := Blk.lt hbx
        clear hbx
        go_wp2_with (first | fail | still_step | (with_reducible refine wpStill_nil ?_) | (with_reducible refine Flow.Both.mk ?_ ?_) | (with_reducible exact True.intro) | (with_reducible refine Flow.same_mk rfl rfl rfl ?_; go_simp; done) | (with_reducible exact Flow.same_un rfl rfl rfl) | (refine Flow.region_still mixed ?hB ?_; (case hB => decide +kernel)))
        clear c0_b f0_b c1_b f1_b c2_b f2_b c3_b f3_b l_b
        have HSA := hid (show Sts w wr R SB (backs s who 0) _ from HST.out)
        have HFA := hid (show Fits (backs s who 0) (LA + 0) from HF.out)
        clear HST hlt hk
        go_loopw [11] (fun i wr => ∃ (j : Nat) (R : Nat → Prop), j ≤ 20 ∧ i = .int .i64 j ∧ Sts w wr R SB (backs s who j) [(w.heap.size + 1, #[.slice a2 LA ca, .slice a3 LG cg, .int .i64 who, .int .u8 pas], 29)]) (fun i _ => 20 - (intOf i).toNat)
        case atStart => exact ⟨0, _, Nat.zero_le _, rfl, Sts.fr HSA.out (show Fr (fun _ => False) wr _ by (repeat' (first | with_reducible exact Fr.refl _ _ | with_reducible apply Fr.alloc | with_reducible apply Fr.drew | with_reducible apply Fr.drewN | (with_reducible refine Fr.setCell ?_ ?_ _))))⟩
        case round =>
          obtain ⟨j, R2, hj, rfl, hst⟩ := hrel
          have HST := hid hst
          clear hst HSA
          by_cases hlt : j < 20
          · skip
            have hbx := HST.out.get (b := w.heap.size + 1) (C := #[.slice a2 LA ca, .slice a3 LG cg, .int .i64 who, .int .u8 pas]) (T := 29) (by simp)
            have c0_b := Blk.cell hbx 0
            have f0_b := Blk.free hbx 0
            have c1_b := Blk.cell hbx 1
            have f1_b := Blk.free hbx 1
            have c2_b := Blk.cell hbx 2
            have f2_b := Blk.free hbx 2
            have c3_b := Blk.cell hbx 3
            have f3_b := Blk.free hbx 3
            have l_b := Blk.lt hbx
            clear hbx
            have HFB := hid (backs_fits HF.out who j)
            go_wp2_with (first | fail | still_step | (with_reducible refine wpStill_nil ?_) | (with_reducible refine Flow.Both.mk ?_ ?_) | (with_reducible exact True.intro) | (with_reducible refine Flow.same_mk rfl rfl rfl ?_; go_simp; done) | (with_reducible exact Flow.same_un rfl rfl rfl) | (refine Flow.region_still mixed ?hB ?_; (case hB => decide +kernel)))
            go_at_call 13
            refine Calls.named fun wc hwc => ?_
            have hST := Sts.fr HST.out (show Fr (fun _ => False) wr wc by rw [hwc]; (repeat' (first | with_reducible exact Fr.refl _ _ | with_reducible apply Fr.alloc | with_reducible apply Fr.drew | with_reducible apply Fr.drewN | (with_reducible refine Fr.setCell ?_ ?_ _))))
            clear HST hwc
            have HST := hid hST
            clear hST
            refine (do_is SB _ (backs s who j) (4) (who) wc HST.out.sr HFB.out.ok (HFB.out.room (by omega)) HFB.out.mem).mono ?_
            rintro e w5 ⟨rfl, R5, hm5, hv5⟩
            have hST := HST.out.mv hm5 hv5
            clear hm5 hv5 HST
            have HST := hid hST
            clear hST
            clear c0_b f0_b c1_b f1_b c2_b f2_b c3_b f3_b l_b
            go_wp2_with (first | fail | still_step | (with_reducible refine wpStill_nil ?_) | (with_reducible refine Flow.Both.mk ?_ ?_) | (with_reducible exact True.intro) | (with_reducible refine Flow.same_mk rfl rfl rfl ?_; go_simp; done) | (with_reducible exact Flow.same_un rfl rfl rfl) | (refine Flow.region_still mixed ?hB ?_; (case hB => decide +kernel)))
            go_roundw
            case rel => exact ⟨j + 1, R5, by omega, by go_num, Sts.fr HST.out (show Fr (fun _ => False) w5 _ by (repeat' (first | with_reducible exact Fr.refl _ _ | with_reducible apply Fr.alloc | with_reducible apply Fr.drew | with_reducible apply Fr.drewN | (with_reducible refine Fr.setCell ?_ ?_ _))))⟩
            case measure => simp [intOf]; omega
          · obtain rfl : j = 20 := by omega
            have hbx := HST.out.get (b := w.heap.size + 1) (C := #[.slice a2 LA ca, .slice a3 LG cg, .int .i64 who, .int .u8 pas]) (T := 29) (by simp)
            have c0_b := Blk.cell hbx 0
            have f0_b := Blk.free hbx 0
            have c1_b := Blk.cell hbx 1
            have f1_b := Blk.free hbx 1
            have c2_b := Blk.cell hbx 2
            have f2_b := Blk.free hbx 2
            have c3_b := Blk.cell hbx 3
            have f3_b := Blk.free hbx 3
            have l_b := Blk.lt hbx
            clear hbx
            have hcn := backs_count HF.out.ok who 20
            have hcl := count_le HF.out.ok who
            have hfb := backs_fits HF.out who 20
            obtain ⟨s2, hs2⟩ : ∃ x, x = backs s who 20 := ⟨_, rfl⟩
            rw [← hs2] at HST hcn hfb
            have hc0 : s2.count who = 0 := by have := HW.out; omega
            obtain ⟨T, hT⟩ : ∃ T, (s2.x.th who).getD noTh = T := ⟨_, rfl⟩
            have HT := hid hT
            have h16 : T.regs.length = 16 := by
              obtain ⟨B, OB, oc, ids, D, A, C, V, G, Rm, h⟩ := HST.out.sr
              rw [← hT]
              exact regs16 h.mr who
            have HT16 := hid h16
            have HC0 := hid hc0
            have HF2 := hid hfb
            have HW2 := hid (show s2.window = 9 from by rw [hs2, backs_window]; exact HW.out)
            obtain ⟨EL, hEL⟩ : ∃ EL, EL = s2.x.events.length := ⟨_, rfl⟩
            have HEL := hid hEL
            clear HF HW HFA hlt hj hcn hcl hs2 hc0 hfb hT hEL h16
            go_wp2_with (first | fail | still_step | (with_reducible refine wpStill_nil ?_) | (with_reducible refine Flow.Both.mk ?_ ?_) | (with_reducible exact True.intro) | (with_reducible refine Flow.same_mk rfl rfl rfl ?_; go_simp; done) | (with_reducible exact Flow.same_un rfl rfl rfl) | (refine Flow.region_still mixed ?hB ?_; (case hB => decide +kernel)))
            go_at_call 14
            refine Calls.named fun wc hwc => ?_
            have hST := Sts.fr HST.out (show Fr (fun _ => False) wr wc by rw [hwc]; (repeat' (first | with_reducible exact Fr.refl _ _ | with_reducible apply Fr.alloc | with_reducible apply Fr.drew | with_reducible apply Fr.drewN | (with_reducible refine Fr.setCell ?_ ?_ _))))
            clear HST hwc
            have HST := hid hST
            clear hST
            clear c0_b f0_b c1_b f1_b c2_b f2_b c3_b f3_b l_b
            have hti := sthread_is SB _ s2 who wc HST.out.sr
            have h16 := HT16.out
            rw [HT.out] at hti
            refine hti.mono ?_
            rintro e w12 ⟨ta12, tc12, rfl, ho12, hf12⟩
            obtain ⟨L12, hLa, hLb⟩ := own_row ho12
            have hST := (Sts.fr HST.out hf12).add (fun e he => ⟨(hLa e he).1, fun hr => by have h1 := HST.out.sr.lt _ hr; have h2 := (hLa e he).2; (try dsimp only at h2); omega⟩)
            have HO12 := hid hLb
            clear HST hLa hLb ho12 hf12 hti
            have HST := hid hST
            obtain ⟨vl12, hvl⟩ : ∃ vl, vl = (standV T ta12 tc12).toArray := ⟨_, rfl⟩
            have hsd := stand_of _ ta12 tc12 h16
            rw [← hvl] at hsd ⊢
            have hvs := hsd.size
            have hv1 := hsd.one
            have HSD12 := hid hsd
            clear hST hvl hsd h16
            go_wp2_with (first | ((with_reducible apply wpList_allocA (ty := 45) (standV noTh none 0).toArray); (case zai => exact zTHR2); (case zac => rfl); intro wA hbA hfA hsA; have HBA := hid hbA; have HFA := hid hfA; clear hbA hfA hsA) | ((with_reducible apply wpList_storeA (b := w12.heap.size) (C := (standV noTh none 0).toArray) (cells := vl12) (T := 45)); (case zsx => rfl); (case zsy => rfl); (case zsn => exact hvs); (case zsi => rw [hvs]; exact szTHR); (case zs1 => exact hv1); (case zsb => exact HBA.out); intro wS12 hbS hfS hsS; have hST := Sts.new HST.out (fr_made HFA.out hfS (Nat.le_refl _)) hbS (Nat.le_refl _); clear HST HBA HFA hbS hfS hsS hvs hv1; skip; have HST := hid hST; clear hST) | fail | still_step | (with_reducible refine wpStill_nil ?_) | (with_reducible refine Flow.Both.mk ?_ ?_) | (with_reducible exact True.intro) | (with_reducible refine Flow.same_mk rfl rfl rfl ?_; go_simp; done) | (with_reducible exact Flow.same_un rfl rfl rfl) | (refine Flow.region_still mixed ?hB ?_; (case hB => decide +kernel)))
            go_at_call 15
            refine Calls.named fun wc hwc => ?_
            have hST := Sts.fr HST.out (show Fr (fun _ => False) wS12 wc by rw [hwc]; (repeat' (first | with_reducible exact Fr.refl _ _ | with_reducible apply Fr.alloc | with_reducible apply Fr.drew | with_reducible apply Fr.drewN | (with_reducible refine Fr.setCell ?_ ?_ _))))
            clear HST hwc
            have HST := hid hST
            clear hST
            refine (eventsS_is SB _ s2 wc HST.out.sr (HF2.out.room (by omega))).mono ?_
            rintro e w6 ⟨ea, ec, rfl, ho6, hf6⟩
            rw [← HEL.out]
            have hST := HST.out.fr hf6
            clear HST hf6
            have HST := hid hST
            clear hST
            clear ho6
            go_wp2_with (first | fail | still_step | (with_reducible refine wpStill_nil ?_) | (with_reducible refine Flow.Both.mk ?_ ?_) | (with_reducible exact True.intro) | (with_reducible refine Flow.same_mk rfl rfl rfl ?_; go_simp; done) | (with_reducible exact Flow.same_un rfl rfl rfl) | (refine Flow.region_still mixed ?hB ?_; (case hB => decide +kernel)))
            go_at_call 16
            refine Calls.named fun wc hwc => ?_
            have hST := Sts.fr HST.out (show Fr (fun _ => False) w6 wc by rw [hwc]; (repeat' (first | with_reducible exact Fr.refl _ _ | with_reducible apply Fr.alloc | with_reducible apply Fr.drew | with_reducible apply Fr.drewN | (with_reducible refine Fr.setCell ?_ ?_ _))))
            clear HST hwc
            have HST := hid hST
            clear hST
            refine (memoryS_is SB _ s2 wc HST.out.sr HF2.out.mem).mono ?_
            rintro e w7 ⟨na, nc, rfl, ho7, hf7⟩
            obtain ⟨L7, hLa, hLb⟩ := own_row ho7
            have hST := (Sts.fr HST.out hf7).add (fun e he => ⟨(hLa e he).1, fun hr => by have h1 := HST.out.sr.lt _ hr; have h2 := (hLa e he).2; (try dsimp only at h2); omega⟩)
            have HO7 := hid hLb
            clear HST hLa hLb ho7 hf7
            have HST := hid hST
            clear hST
            obtain ⟨NL, hNL⟩ : ∃ NL, NL = s2.x.mem.length := ⟨_, rfl⟩
            have HNL := hid hNL
            rw [← hNL]
            clear hNL
            have hbx := HST.out.get (b := w.heap.size + 1) (C := #[.slice a2 LA ca, .slice a3 LG cg, .int .i64 who, .int .u8 pas]) (T := 29) (by simp)
            have c0_b := Blk.cell hbx 0
            have f0_b := Blk.free hbx 0
            have c1_b := Blk.cell hbx 1
            have f1_b := Blk.free hbx 1
            have c2_b := Blk.cell hbx 2
            have f2_b := Blk.free hbx 2
            have c3_b := Blk.cell hbx 3
            have f3_b := Blk.free hbx 3
            have l_b := Blk.lt hbx
            clear hbx
            go_wp2_with (first | fail | still_step | (with_reducible refine wpStill_nil ?_) | (with_reducible refine Flow.Both.mk ?_ ?_) | (with_reducible exact True.intro) | (with_reducible refine Flow.same_mk rfl rfl rfl ?_; go_simp; done) | (with_reducible exact Flow.same_un rfl rfl rfl) | (refine Flow.region_still mixed ?hB ?_; (case hB => decide +kernel)))
            clear c0_b f0_b c1_b f1_b c2_b f2_b c3_b f3_b l_b
            obtain ⟨pk, hpk⟩ : ∃ pk, pk = wrap64 (2 + wrap64 (bits BinOp.and IntKind.u8 pas 1)) := ⟨_, rfl⟩
            have hp23 := pass_kind pas hp0 hp1
            rw [← hpk] at hp23 ⊢
            obtain ⟨⟨s3, ⟨kk, kt, kw, kn⟩, is3⟩, hres⟩ : ∃ r, r = s2.doIt pk who := ⟨_, rfl⟩
            have hin : is3 = true → InW s3 who T s2.x.mem s2.x.events := by
              intro h
              have := in_begun HF2.out HC0.out hp23 HT.out (by rw [← hres]; exact h)
              rw [← hres] at this
              exact this
            have hfit3 : Fits s3 (LA + 21) := by have := HF2.out.doIt pk who; rw [← hres] at this; exact this
            have hwin3 : s3.window = 9 := by have := do_window s2 pk who; rw [← hres] at this; exact this.trans HW2.out
            have HRES := hid hres
            have HF3 := hid hfit3
            have HW3 := hid hwin3
            clear hpk hp23 hres hfit3 hwin3
            go_at_call 13
            refine Calls.named fun wc hwc => ?_
            have hST := Sts.fr HST.out (show Fr (fun _ => False) w7 wc by rw [hwc]; (repeat' (first | with_reducible exact Fr.refl _ _ | with_reducible apply Fr.alloc | with_reducible apply Fr.drew | with_reducible apply Fr.drewN | (with_reducible refine Fr.setCell ?_ ?_ _))))
            clear HST hwc
            have HST := hid hST
            clear hST
            have hdi := do_is SB _ s2 pk who wc HST.out.sr HF2.out.ok (HF2.out.room (by omega)) HF2.out.mem
            rw [← HRES.out] at hdi
            refine hdi.mono ?_
            clear hdi
            rintro e w8 ⟨rfl, R8, hm8, hv8⟩
            have hST := HST.out.mv hm8 hv8
            clear hm8 hv8 HST
            have HST := hid hST
            clear hST
            dsimp only [leakV]
            cases is3 with
            | false =>
              clear hin
              go_wp2_with (first | ((with_reducible apply wpList_allocA (ty := 37) #[.int .i64 0, .int .i64 0, .int .i64 0, .int .i64 0]); (case zai => exact zLK); (case zac => rfl); intro wA hbA hfA hsA; have HBA := hid hbA; have HFA := hid hfA; clear hbA hfA hsA) | ((with_reducible apply wpList_storeA (b := w8.heap.size) (C := #[.int .i64 0, .int .i64 0, .int .i64 0, .int .i64 0]) (cells := #[.int .i64 (kk), .int .i64 (kt), .int .i64 (kw), .int .i64 (kn)]) (T := 37)); (case zsx => rfl); (case zsy => rfl); (case zsn => rfl); (case zsi => exact szLK); (case zs1 => rfl); (case zsb => exact HBA.out); intro wS8 hbS hfS hsS; have hST := Sts.new HST.out (fr_made HFA.out hfS (Nat.le_refl _)) hbS (Nat.le_refl _); clear HST HBA HFA hbS hfS hsS; have HST := hid hST; clear hST) | fail | still_step | (with_reducible refine wpStill_nil ?_) | (with_reducible refine Flow.Both.mk ?_ ?_) | (with_reducible exact True.intro) | (with_reducible refine Flow.same_mk rfl rfl rfl ?_; go_simp; done) | (with_reducible exact Flow.same_un rfl rfl rfl) | (refine Flow.region_still mixed ?hB ?_; (case hB => decide +kernel)))
              go_ret
              exact ⟨rfl, (Sts.fr HST.out (show Fr (fun _ => False) wS8 _ by (repeat' (first | with_reducible exact Fr.refl _ _ | with_reducible apply Fr.alloc | with_reducible apply Fr.drew | with_reducible apply Fr.drewN | (with_reducible refine Fr.setCell ?_ ?_ _))))).fr0⟩
            | true =>
              have HIN := hid (hin rfl)
              clear hin
              go_wp2_with (first | ((with_reducible apply wpList_allocA (ty := 37) #[.int .i64 0, .int .i64 0, .int .i64 0, .int .i64 0]); (case zai => exact zLK); (case zac => rfl); intro wA hbA hfA hsA; have HBA := hid hbA; have HFA := hid hfA; clear hbA hfA hsA) | ((with_reducible apply wpList_storeA (b := w8.heap.size) (C := #[.int .i64 0, .int .i64 0, .int .i64 0, .int .i64 0]) (cells := #[.int .i64 (kk), .int .i64 (kt), .int .i64 (kw), .int .i64 (kn)]) (T := 37)); (case zsx => rfl); (case zsy => rfl); (case zsn => rfl); (case zsi => exact szLK); (case zs1 => rfl); (case zsb => exact HBA.out); intro wS8 hbS hfS hsS; have hST := Sts.new HST.out (fr_made HFA.out hfS (Nat.le_refl _)) hbS (Nat.le_refl _); clear HST HBA HFA hbS hfS hsS; have HST := hid hST; clear hST) | fail | still_step | (with_reducible refine wpStill_nil ?_) | (with_reducible refine Flow.Both.mk ?_ ?_) | (with_reducible exact True.intro) | (with_reducible refine Flow.same_mk rfl rfl rfl ?_; go_simp; done) | (with_reducible exact Flow.same_un rfl rfl rfl) | (refine Flow.region_still mixed ?hB ?_; (case hB => decide +kernel)))
              obtain ⟨LL, hLL, hST⟩ := HST.out.name
              have HLL := hid hLL
              clear HST hLL
              have HS8 := hid (Sts.fr hST (show Fr (fun _ => False) wS8 wS8 by (repeat' (first | with_reducible exact Fr.refl _ _ | with_reducible apply Fr.alloc | with_reducible apply Fr.drew | with_reducible apply Fr.drewN | (with_reducible refine Fr.setCell ?_ ?_ _)))))
              have hbox : (w.heap.size + 1, (#[.slice a2 LA ca, .slice a3 LG cg, .int .i64 who, .int .u8 pas] : Array Value), 29) ∈ LL := by rw [HLL.out]; simp
              have HBOX := hid hbox
              clear hST hbox
              go_loopw [17] (fun i wr => ∃ (j : Nat) (R : Nat → Prop) (s : SM), j ≤ LG ∧ i = .int .i64 j ∧ Sts w wr R SB s LL ∧ Fits s (LA + 21 + j) ∧ s.window = 9 ∧ InW s who T s2.x.mem s2.x.events) (fun i _ => LG - (intOf i).toNat)
              case atStart => exact ⟨0, _, s3, Nat.zero_le _, rfl, Sts.fr HS8.out (show Fr (fun _ => False) wS8 _ by (repeat' (first | with_reducible exact Fr.refl _ _ | with_reducible apply Fr.alloc | with_reducible apply Fr.drew | with_reducible apply Fr.drewN | (with_reducible refine Fr.setCell ?_ ?_ _)))), HF3.out, HW3.out, HIN.out⟩
              case round =>
                obtain ⟨j, R, s, hj, rfl, hst, hfit, hwin, hin⟩ := hrel
                have HST := hid hst
                have HF := hid hfit
                have HW := hid hwin
                have HIN := hid hin
                clear hst hfit hwin hin HS8 HF3 HW3
                by_cases hlt : j < LG
                · have hkl : j < lg.length := by have := HLG.out; omega
                  have hne : dosC lg ≠ [] := fun h => by have := congrArg List.length h; rw [dosC_length] at this; simp only [List.length_nil] at this; omega
                  obtain ⟨r0, off0, rfl, hr0, hcell⟩ := (HVG.out.fr HST.out.fr0 (fun _ _ h => h)).cell hne
                  have c0 : wr.cell? ⟨r0, off0 + j * 2, none⟩ = some (.int .i64 lg[j].1) := hcell (j * 2) _ (dosC_get lg j hkl).1
                  have c1 : wr.cell? ⟨r0, off0 + j * 2 + 1, none⟩ = some (.int .i64 lg[j].2) := hcell (j * 2 + 1) _ (dosC_get lg j hkl).2
                  clear hcell hne
                  generalize lg[j] = d at *
                  obtain ⟨kind, w5⟩ := d
                  dsimp only at c0 c1
                  have hbx := HST.out.get HBOX.out
                  have c0_b := Blk.cell hbx 0
                  have f0_b := Blk.free hbx 0
                  have c1_b := Blk.cell hbx 1
                  have f1_b := Blk.free hbx 1
                  have c2_b := Blk.cell hbx 2
                  have f2_b := Blk.free hbx 2
                  have c3_b := Blk.cell hbx 3
                  have f3_b := Blk.free hbx 3
                  have l_b := Blk.lt hbx
                  clear hbx
                  by_cases hk1 : kind = 1
                  · subst hk1
                    go_wp2_with (first | fail | still_step | (with_reducible refine wpStill_nil ?_) | (with_reducible refine Flow.Both.mk ?_ ?_) | (with_reducible exact True.intro) | (with_reducible refine Flow.same_mk rfl rfl rfl ?_; go_simp; done) | (with_reducible exact Flow.same_un rfl rfl rfl) | (refine Flow.region_still mixed ?hB ?_; (case hB => decide +kernel)))
                    go_roundw
                    case rel => exact ⟨j + 1, R, s, by omega, by go_num, Sts.fr HST.out (show Fr (fun _ => False) wr _ by (repeat' (first | with_reducible exact Fr.refl _ _ | with_reducible apply Fr.alloc | with_reducible apply Fr.drew | with_reducible apply Fr.drewN | (with_reducible refine Fr.setCell ?_ ?_ _)))), HF.out.mono (by omega), HW.out, HIN.out⟩
                    case measure => simp [intOf]; omega
                  · have he1 : (kind == 1) = false := by simpa using hk1
                    obtain ⟨CN, hCN⟩ : ∃ c, c = s.count who := ⟨_, rfl⟩
                    have hcp := HIN.out.count
                    rw [← hCN] at hcp
                    have hcp2 : (0 : Int) < (CN : Nat) := by omega
                    have HCN := hid hCN
                    clear hCN
                    go_wp2_with (first | fail | still_step | (with_reducible refine wpStill_nil ?_) | (with_reducible refine Flow.Both.mk ?_ ?_) | (with_reducible exact True.intro) | (with_reducible refine Flow.same_mk rfl rfl rfl ?_; go_simp; done) | (with_reducible exact Flow.same_un rfl rfl rfl) | (refine Flow.region_still mixed ?hB ?_; (case hB => decide +kernel)))
                    go_at_call 17
                    refine Calls.named fun wc hwc => ?_
                    have hbd : Blk wc wr.heap.size #[.int .i64 kind, .int .i64 who] 41 := by rw [hwc]; exact Blk.new _ _ _
                    have hST := Sts.new HST.out (show Fr (fun _ => False) wr wc by rw [hwc]; (repeat' (first | with_reducible exact Fr.refl _ _ | with_reducible apply Fr.alloc | with_reducible apply Fr.drew | with_reducible apply Fr.drewN | (with_reducible refine Fr.setCell ?_ ?_ _)))) hbd (Nat.le_refl _)
                    clear HST hwc hbd
                    have HST := hid hST
                    clear hST
                    refine (count_is SB _ s who wc HST.out.sr).mono ?_
                    rintro e w6 ⟨rfl, hf6⟩
                    rw [← HCN.out]
                    have hST := HST.out.fr hf6
                    clear HST hf6
                    have HST := hid hST
                    clear hST
                    clear c0_b f0_b c1_b f1_b c2_b f2_b c3_b f3_b l_b
                    clear c0 c1
                    have hbx := HST.out.get (List.mem_cons_of_mem _ HBOX.out)
                    have c0_b := Blk.cell hbx 0
                    have f0_b := Blk.free hbx 0
                    have c1_b := Blk.cell hbx 1
                    have f1_b := Blk.free hbx 1
                    have c2_b := Blk.cell hbx 2
                    have f2_b := Blk.free hbx 2
                    have c3_b := Blk.cell hbx 3
                    have f3_b := Blk.free hbx 3
                    have l_b := Blk.lt hbx
                    clear hbx
                    have hbd := HST.out.get (b := wr.heap.size) (C := #[.int .i64 kind, .int .i64 who]) (T := 41) (List.mem_cons_self ..)
                    have c0_d := Blk.cell hbd 0
                    have f0_d := Blk.free hbd 0
                    have c1_d := Blk.cell hbd 1
                    have f1_d := Blk.free hbd 1
                    have l_d := Blk.lt hbd
                    clear hbd
                    by_cases hk4 : kind = 4
                    · subst hk4
                      go_wp2_with (first | fail | still_step | (with_reducible refine wpStill_nil ?_) | (with_reducible refine Flow.Both.mk ?_ ?_) | (with_reducible exact True.intro) | (with_reducible refine Flow.same_mk rfl rfl rfl ?_; go_simp; done) | (with_reducible exact Flow.same_un rfl rfl rfl) | (refine Flow.region_still mixed ?hB ?_; (case hB => decide +kernel)))
                      go_at_call 17
                      refine Calls.named fun wc hwc => ?_
                      have hST := Sts.fr HST.out (show Fr (fun _ => False) w6 wc by rw [hwc]; (repeat' (first | with_reducible exact Fr.refl _ _ | with_reducible apply Fr.alloc | with_reducible apply Fr.drew | with_reducible apply Fr.drewN | (with_reducible refine Fr.setCell ?_ ?_ _))))
                      clear HST hwc
                      have HST := hid hST
                      clear hST
                      refine (count_is SB _ s who wc HST.out.sr).mono ?_
                      rintro e w7 ⟨rfl, hf7⟩
                      rw [← HCN.out]
                      have hST := HST.out.fr hf7
                      clear HST hf7
                      have HST := hid hST
                      clear hST
                      clear c0_b f0_b c1_b f1_b c2_b f2_b c3_b f3_b l_b
                      clear c0_d f0_d c1_d f1_d l_d
                      have hbd := HST.out.get (b := wr.heap.size) (C := #[.int .i64 4, .int .i64 who]) (T := 41) (List.mem_cons_self ..)
                      have c0_d := Blk.cell hbd 0
                      have f0_d := Blk.free hbd 0
                      have c1_d := Blk.cell hbd 1
                      have f1_d := Blk.free hbd 1
                      have l_d := Blk.lt hbd
                      clear hbd
                      by_cases hc1 : 1 < CN
                      · have hc2 : (1 : Int) < (CN : Nat) := by omega
                        go_wp2_with (first | fail | still_step | (with_reducible refine wpStill_nil ?_) | (with_reducible refine Flow.Both.mk ?_ ?_) | (with_reducible exact True.intro) | (with_reducible refine Flow.same_mk rfl rfl rfl ?_; go_simp; done) | (with_reducible exact Flow.same_un rfl rfl rfl) | (refine Flow.region_still mixed ?hB ?_; (case hB => decide +kernel)))
                        go_at_call 13
                        refine Calls.named fun wc hwc => ?_
                        have hST := Sts.fr HST.out (show Fr (fun _ => False) w7 wc by rw [hwc]; (repeat' (first | with_reducible exact Fr.refl _ _ | with_reducible apply Fr.alloc | with_reducible apply Fr.drew | with_reducible apply Fr.drewN | (with_reducible refine Fr.setCell ?_ ?_ _))))
                        clear HST hwc
                        have HST := hid hST
                        clear hST
                        refine (do_is SB _ (s) (4) (who) wc HST.out.sr HF.out.ok (HF.out.room (by omega)) HF.out.mem).mono ?_
                        rintro e w9 ⟨rfl, R9, hm9, hv9⟩
                        have hST := HST.out.mv hm9 hv9
                        clear hm9 hv9 HST
                        have HST := hid hST
                        clear hST
                        clear c0_d f0_d c1_d f1_d l_d
                        go_wp2_with (first | fail | still_step | (with_reducible refine wpStill_nil ?_) | (with_reducible refine Flow.Both.mk ?_ ?_) | (with_reducible exact True.intro) | (with_reducible refine Flow.same_mk rfl rfl rfl ?_; go_simp; done) | (with_reducible exact Flow.same_un rfl rfl rfl) | (refine Flow.region_still mixed ?hB ?_; (case hB => decide +kernel)))
                        go_roundw
                        case rel => exact ⟨j + 1, R9, _, by omega, by go_num, Sts.fr (HST.out.less (fun e he => List.mem_cons_of_mem _ he)) (show Fr (fun _ => False) w9 _ by (repeat' (first | with_reducible exact Fr.refl _ _ | with_reducible apply Fr.alloc | with_reducible apply Fr.drew | with_reducible apply Fr.drewN | (with_reducible refine Fr.setCell ?_ ?_ _)))), HF.out.doIt 4 who, (do_window _ _ _).trans HW.out, HIN.out.doIt HF.out hk1 (fun _ => by rw [← HCN.out]; exact hc1)⟩
                        case measure => simp [intOf]; omega
                      · have hc2 : ¬ (1 : Int) < (CN : Nat) := by omega
                        go_wp2_with (first | fail | still_step | (with_reducible refine wpStill_nil ?_) | (with_reducible refine Flow.Both.mk ?_ ?_) | (with_reducible exact True.intro) | (with_reducible refine Flow.same_mk rfl rfl rfl ?_; go_simp; done) | (with_reducible exact Flow.same_un rfl rfl rfl) | (refine Flow.region_still mixed ?hB ?_; (case hB => decide +kernel)))
                        go_roundw
                        case rel => exact ⟨j + 1, R, s, by omega, by go_num, Sts.fr (HST.out.less (fun e he => List.mem_cons_of_mem _ he)) (show Fr (fun _ => False) w7 _ by (repeat' (first | with_reducible exact Fr.refl _ _ | with_reducible apply Fr.alloc | with_reducible apply Fr.drew | with_reducible apply Fr.drewN | (with_reducible refine Fr.setCell ?_ ?_ _)))), HF.out.mono (by omega), HW.out, HIN.out⟩
                        case measure => simp [intOf]; omega
                    · have he4 : (kind == 4) = false := by simpa using hk4
                      go_wp2_with (first | fail | still_step | (with_reducible refine wpStill_nil ?_) | (with_reducible refine Flow.Both.mk ?_ ?_) | (with_reducible exact True.intro) | (with_reducible refine Flow.same_mk rfl rfl rfl ?_; go_simp; done) | (with_reducible exact Flow.same_un rfl rfl rfl) | (refine Flow.region_still mixed ?hB ?_; (case hB => decide +kernel)))
                      clear c0_b f0_b c1_b f1_b c2_b f2_b c3_b f3_b l_b
                      go_at_call 13
                      refine Calls.named fun wc hwc => ?_
                      have hST := Sts.fr HST.out (show Fr (fun _ => False) w6 wc by rw [hwc]; (repeat' (first | with_reducible exact Fr.refl _ _ | with_reducible apply Fr.alloc | with_reducible apply Fr.drew | with_reducible apply Fr.drewN | (with_reducible refine Fr.setCell ?_ ?_ _))))
                      clear HST hwc
                      have HST := hid hST
                      clear hST
                      refine (do_is SB _ (s) (kind) (who) wc HST.out.sr HF.out.ok (HF.out.room (by omega)) HF.out.mem).mono ?_
                      rintro e w9 ⟨rfl, R9, hm9, hv9⟩
                      have hST := HST.out.mv hm9 hv9
                      clear hm9 hv9 HST
                      have HST := hid hST
                      clear hST
                      clear c0_d f0_d c1_d f1_d l_d
                      go_wp2_with (first | fail | still_step | (with_reducible refine wpStill_nil ?_) | (with_reducible refine Flow.Both.mk ?_ ?_) | (with_reducible exact True.intro) | (with_reducible refine Flow.same_mk rfl rfl rfl ?_; go_simp; done) | (with_reducible exact Flow.same_un rfl rfl rfl) | (refine Flow.region_still mixed ?hB ?_; (case hB => decide +kernel)))
                      go_roundw
                      case rel => exact ⟨j + 1, R9, _, by omega, by go_num, Sts.fr (HST.out.less (fun e he => List.mem_cons_of_mem _ he)) (show Fr (fun _ => False) w9 _ by (repeat' (first | with_reducible exact Fr.refl _ _ | with_reducible apply Fr.alloc | with_reducible apply Fr.drew | with_reducible apply Fr.drewN | (with_reducible refine Fr.setCell ?_ ?_ _)))), HF.out.doIt kind who, (do_window _ _ _).trans HW.out, HIN.out.doIt HF.out hk1 (fun h => absurd h hk4)⟩
                      case measure => simp [intOf]; omega
                · obtain rfl : LG = j := by omega
                  have hbx := HST.out.get HBOX.out
                  have c0_b := Blk.cell hbx 0
                  have f0_b := Blk.free hbx 0
                  have c1_b := Blk.cell hbx 1
                  have f1_b := Blk.free hbx 1
                  have c2_b := Blk.cell hbx 2
                  have f2_b := Blk.free hbx 2
                  have c3_b := Blk.cell hbx 3
                  have f3_b := Blk.free hbx 3
                  have l_b := Blk.lt hbx
                  clear hbx HVG HVA hlt hj
                  obtain ⟨su1, su2, su3⟩ := HIN.out.sure
                  obtain ⟨SU, hSU⟩ : ∃ x, s.sure who = x := ⟨_, rfl⟩
                  rw [hSU] at su1 su2 su3
                  have HSU := hid hSU
                  have HS1 := hid su1
                  have HS2 := hid su2
                  have HS3 := hid su3
                  clear hSU su1 su2 su3
                  go_wp2_with (first | fail | still_step | (with_reducible refine wpStill_nil ?_) | (with_reducible refine Flow.Both.mk ?_ ?_) | (with_reducible exact True.intro) | (with_reducible refine Flow.same_mk rfl rfl rfl ?_; go_simp; done) | (with_reducible exact Flow.same_un rfl rfl rfl) | (refine Flow.region_still mixed ?hB ?_; (case hB => decide +kernel)))
                  go_at_call 18
                  refine Calls.named fun wc hwc => ?_
                  have hST := Sts.fr HST.out (show Fr (fun _ => False) wr wc by rw [hwc]; (repeat' (first | with_reducible exact Fr.refl _ _ | with_reducible apply Fr.alloc | with_reducible apply Fr.drew | with_reducible apply Fr.drewN | (with_reducible refine Fr.setCell ?_ ?_ _))))
                  clear HST hwc
                  have HST := hid hST
                  clear hST
                  clear c0_b f0_b c1_b f1_b c2_b f2_b c3_b f3_b l_b
                  have hti := sure_is SB _ s who wc HST.out.sr HF.out.ok
                  rw [HSU.out] at hti
                  have h16 : SU.regs.length = 16 := by rw [HS2.out]; exact HT16.out
                  refine hti.mono ?_
                  rintro e w19 ⟨ta19, tc19, rfl, ho19, hf19⟩
                  obtain ⟨L19, hLa, hLb⟩ := own_row ho19
                  have hST := (Sts.fr HST.out hf19).add (fun e he => ⟨(hLa e he).1, fun hr => by have h1 := HST.out.sr.lt _ hr; have h2 := (hLa e he).2; (try dsimp only at h2); omega⟩)
                  have HO19 := hid hLb
                  clear HST hLa hLb ho19 hf19 hti
                  have HST := hid hST
                  obtain ⟨vl19, hvl⟩ : ∃ vl, vl = (standV SU ta19 tc19).toArray := ⟨_, rfl⟩
                  have hsd := stand_of _ ta19 tc19 h16
                  rw [← hvl] at hsd ⊢
                  have hvs := hsd.size
                  have hv1 := hsd.one
                  have HSD19 := hid hsd
                  clear hST hvl hsd h16
                  go_wp2_with (first | ((with_reducible apply wpList_allocA (ty := 45) (standV noTh none 0).toArray); (case zai => exact zTHR2); (case zac => rfl); intro wA hbA hfA hsA; have HBA := hid hbA; have HFA := hid hfA; clear hbA hfA hsA) | ((with_reducible apply wpList_storeA (b := w19.heap.size) (C := (standV noTh none 0).toArray) (cells := vl19) (T := 45)); (case zsx => rfl); (case zsy => rfl); (case zsn => exact hvs); (case zsi => rw [hvs]; exact szTHR); (case zs1 => exact hv1); (case zsb => exact HBA.out); intro wS19 hbS hfS hsS; have hST := Sts.new HST.out (fr_made HFA.out hfS (Nat.le_refl _)) hbS (Nat.le_refl _); clear HST HBA HFA hbS hfS hsS hvs hv1; skip; have HST := hid hST; clear hST) | fail | still_step | (with_reducible refine wpStill_nil ?_) | (with_reducible refine Flow.Both.mk ?_ ?_) | (with_reducible exact True.intro) | (with_reducible refine Flow.same_mk rfl rfl rfl ?_; go_simp; done) | (with_reducible exact Flow.same_un rfl rfl rfl) | (refine Flow.region_still mixed ?hB ?_; (case hB => decide +kernel)))
                  obtain ⟨LM, hLM, hST⟩ := HST.out.name
                  have HLM := hid hLM
                  clear HST hLM
                  have HS9 := hid (Sts.fr hST (show Fr (fun _ => False) wS19 wS19 by (repeat' (first | with_reducible exact Fr.refl _ _ | with_reducible apply Fr.alloc | with_reducible apply Fr.drew | with_reducible apply Fr.drewN | (with_reducible refine Fr.setCell ?_ ?_ _)))))
                  have hbox : (w.heap.size + 1, (#[.slice a2 LA ca, .slice a3 LG cg, .int .i64 who, .int .u8 pas] : Array Value), 29) ∈ LM := by rw [HLM.out]; simp [HBOX.out]
                  have HBOX2 := hid hbox
                  clear hST hbox
                  go_loopw [20] (fun i wr => ∃ (j : Nat) (R : Nat → Prop), j ≤ 20 ∧ i = .int .i64 j ∧ Sts w wr R SB (backs s who j) LM) (fun i _ => 20 - (intOf i).toNat)
                  case atStart => exact ⟨0, _, Nat.zero_le _, rfl, Sts.fr HS9.out (show Fr (fun _ => False) wS19 _ by (repeat' (first | with_reducible exact Fr.refl _ _ | with_reducible apply Fr.alloc | with_reducible apply Fr.drew | with_reducible apply Fr.drewN | (with_reducible refine Fr.setCell ?_ ?_ _))))⟩
                  case round =>
                    obtain ⟨j, R2, hj, rfl, hst⟩ := hrel
                    have HST := hid hst
                    clear hst HS9
                    have hbx := HST.out.get HBOX2.out
                    have c0_b := Blk.cell hbx 0
                    have f0_b := Blk.free hbx 0
                    have c1_b := Blk.cell hbx 1
                    have f1_b := Blk.free hbx 1
                    have c2_b := Blk.cell hbx 2
                    have f2_b := Blk.free hbx 2
                    have c3_b := Blk.cell hbx 3
                    have f3_b := Blk.free hbx 3
                    have l_b := Blk.lt hbx
                    clear hbx
                    by_cases hlt : j < 20
                    · have HFB := hid (backs_fits HF.out who j)
                      go_wp2_with (first | fail | still_step | (with_reducible refine wpStill_nil ?_) | (with_reducible refine Flow.Both.mk ?_ ?_) | (with_reducible exact True.intro) | (with_reducible refine Flow.same_mk rfl rfl rfl ?_; go_simp; done) | (with_reducible exact Flow.same_un rfl rfl rfl) | (refine Flow.region_still mixed ?hB ?_; (case hB => decide +kernel)))
                      go_at_call 13
                      refine Calls.named fun wc hwc => ?_
                      have hST := Sts.fr HST.out (show Fr (fun _ => False) wr wc by rw [hwc]; (repeat' (first | with_reducible exact Fr.refl _ _ | with_reducible apply Fr.alloc | with_reducible apply Fr.drew | with_reducible apply Fr.drewN | (with_reducible refine Fr.setCell ?_ ?_ _))))
                      clear HST hwc
                      have HST := hid hST
                      clear hST
                      refine (do_is SB _ (backs s who j) (4) (who) wc HST.out.sr HFB.out.ok (HFB.out.room (by omega)) HFB.out.mem).mono ?_
                      rintro e w5 ⟨rfl, R5, hm5, hv5⟩
                      have hST := HST.out.mv hm5 hv5
                      clear hm5 hv5 HST
                      have HST := hid hST
                      clear hST
                      clear c0_b f0_b c1_b f1_b c2_b f2_b c3_b f3_b l_b
                      go_wp2_with (first | fail | still_step | (with_reducible refine wpStill_nil ?_) | (with_reducible refine Flow.Both.mk ?_ ?_) | (with_reducible exact True.intro) | (with_reducible refine Flow.same_mk rfl rfl rfl ?_; go_simp; done) | (with_reducible exact Flow.same_un rfl rfl rfl) | (refine Flow.region_still mixed ?hB ?_; (case hB => decide +kernel)))
                      go_roundw
                      case rel => exact ⟨j + 1, R5, by omega, by go_num, Sts.fr HST.out (show Fr (fun _ => False) w5 _ by (repeat' (first | with_reducible exact Fr.refl _ _ | with_reducible apply Fr.alloc | with_reducible apply Fr.drew | with_reducible apply Fr.drewN | (with_reducible refine Fr.setCell ?_ ?_ _))))⟩
                      case measure => simp [intOf]; omega
                    · obtain rfl : j = 20 := by omega
                      have hout := HIN.out.out HF.out HW.out
                      have hfb := backs_fits HF.out who 20
                      obtain ⟨s4, hs4⟩ : ∃ x, x = backs s who 20 := ⟨_, rfl⟩
                      rw [← hs4] at HST hout hfb
                      obtain ⟨T2, hT2⟩ : ∃ x, (s4.x.th who).getD noTh = x := ⟨_, rfl⟩
                      have HOUT := hid hout
                      have HFB := hid hfb
                      have HT2 := hid hT2
                      have HP2 := hid (show T2.place = T.place from by rw [← hT2]; exact hout.place)
                      have HR2 := hid (show T2.regs = T.regs from by rw [← hT2]; exact hout.regs)
                      have HW2' := hid (show T2.wait.length = T.wait.length from by rw [← hT2, hout.wait])
                      clear hout hfb hs4 hT2 hlt hj HF HW HIN
                      go_wp2_with (first | fail | still_step | (with_reducible refine wpStill_nil ?_) | (with_reducible refine Flow.Both.mk ?_ ?_) | (with_reducible exact True.intro) | (with_reducible refine Flow.same_mk rfl rfl rfl ?_; go_simp; done) | (with_reducible exact Flow.same_un rfl rfl rfl) | (refine Flow.region_still mixed ?hB ?_; (case hB => decide +kernel)))
                      go_at_call 14
                      refine Calls.named fun wc hwc => ?_
                      have hST := Sts.fr HST.out (show Fr (fun _ => False) wr wc by rw [hwc]; (repeat' (first | with_reducible exact Fr.refl _ _ | with_reducible apply Fr.alloc | with_reducible apply Fr.drew | with_reducible apply Fr.drewN | (with_reducible refine Fr.setCell ?_ ?_ _))))
                      clear HST hwc
                      have HST := hid hST
                      clear hST
                      clear c0_b f0_b c1_b f1_b c2_b f2_b c3_b f3_b l_b
                      have hti := sthread_is SB _ s4 who wc HST.out.sr
                      have h16 : T2.regs.length = 16 := by rw [HR2.out]; exact HT16.out
                      rw [HT2.out] at hti
                      refine hti.mono ?_
                      rintro e w21 ⟨ta21, tc21, rfl, ho21, hf21⟩
                      obtain ⟨L21, hLa, hLb⟩ := own_row ho21
                      have hST := (Sts.fr HST.out hf21).add (fun e he => ⟨(hLa e he).1, fun hr => by have h1 := HST.out.sr.lt _ hr; have h2 := (hLa e he).2; (try dsimp only at h2); omega⟩)
                      have HO21 := hid hLb
                      clear HST hLa hLb ho21 hf21 hti
                      have HST := hid hST
                      obtain ⟨vl21, hvl⟩ : ∃ vl, vl = (standV T2 ta21 tc21).toArray := ⟨_, rfl⟩
                      have hsd := stand_of _ ta21 tc21 h16
                      rw [← hvl] at hsd ⊢
                      have hvs := hsd.size
                      have hv1 := hsd.one
                      have HSD21 := hid hsd
                      clear hST hvl hsd h16
                      go_wp2_with (first | ((with_reducible apply wpList_allocA (ty := 45) (standV noTh none 0).toArray); (case zai => exact zTHR2); (case zac => rfl); intro wA hbA hfA hsA; have HBA := hid hbA; have HFA := hid hfA; clear hbA hfA hsA) | ((with_reducible apply wpList_storeA (b := w21.heap.size) (C := (standV noTh none 0).toArray) (cells := vl21) (T := 45)); (case zsx => rfl); (case zsy => rfl); (case zsn => exact hvs); (case zsi => rw [hvs]; exact szTHR); (case zs1 => exact hv1); (case zsb => exact HBA.out); intro wS21 hbS hfS hsS; have hST := Sts.new HST.out (fr_made HFA.out hfS (Nat.le_refl _)) hbS (Nat.le_refl _); clear HST HBA HFA hbS hfS hsS hvs hv1; skip; have HST := hid hST; clear hST) | fail | still_step | (with_reducible refine wpStill_nil ?_) | (with_reducible refine Flow.Both.mk ?_ ?_) | (with_reducible exact True.intro) | (with_reducible refine Flow.same_mk rfl rfl rfl ?_; go_simp; done) | (with_reducible exact Flow.same_un rfl rfl rfl) | (refine Flow.region_still mixed ?hB ?_; (case hB => decide +kernel)))
                      go_at_call 16
                      refine Calls.named fun wc hwc => ?_
                      have hST := Sts.fr HST.out (show Fr (fun _ => False) wS21 wc by rw [hwc]; (repeat' (first | with_reducible exact Fr.refl _ _ | with_reducible apply Fr.alloc | with_reducible apply Fr.drew | with_reducible apply Fr.drewN | (with_reducible refine Fr.setCell ?_ ?_ _))))
                      clear HST hwc
                      have HST := hid hST
                      clear hST
                      have hme := memoryS_is SB _ s4 wc HST.out.sr HFB.out.mem
                      rw [HOUT.out.mem, ← HNL.out] at hme
                      refine hme.mono ?_
                      clear hme
                      rintro e w9 ⟨ma, mc, rfl, ho9, hf9⟩
                      obtain ⟨L9, hLa, hLb⟩ := own_row ho9
                      have hST := (Sts.fr HST.out hf9).add (fun e he => ⟨(hLa e he).1, fun hr => by have h1 := HST.out.sr.lt _ hr; have h2 := (hLa e he).2; (try dsimp only at h2); omega⟩)
                      have HO9 := hid hLb
                      clear HST hLa hLb ho9 hf9
                      have HST := hid hST
                      clear hST
                      go_wp2_with (first | fail | still_step | (with_reducible refine wpStill_nil ?_) | (with_reducible refine Flow.Both.mk ?_ ?_) | (with_reducible exact True.intro) | (with_reducible refine Flow.same_mk rfl rfl rfl ?_; go_simp; done) | (with_reducible exact Flow.same_un rfl rfl rfl) | (refine Flow.region_still mixed ?hB ?_; (case hB => decide +kernel)))
                      obtain ⟨LN, hLN, hST⟩ := HST.out.name
                      have HLN := hid hLN
                      have HS10 := hid hST
                      have HM12 := hid (show (w12.heap.size, vl12, 45) ∈ LN from by simp [hLN, HLM.out, HLL.out])
                      have HM19 := hid (show (w19.heap.size, vl19, 45) ∈ LN from by simp [hLN, HLM.out])
                      have HM21 := hid (show (w21.heap.size, vl21, 45) ∈ LN from by simp [hLN])
                      have HE7 := hid (show ∀ e ∈ L7, e ∈ LN from fun e he => by simp [hLN, HLM.out, HLL.out, he])
                      have HE9 := hid (show ∀ e ∈ L9, e ∈ LN from fun e he => by simp [hLN, he])
                      have HBOX3 := hid (show (w.heap.size + 1, (#[.slice a2 LA ca, .slice a3 LG cg, .int .i64 who, .int .u8 pas] : Array Value), 29) ∈ LN from by rw [hLN]; simp [HBOX2.out])
                      have HA12 := hid HSD12.out.all
                      have HA19 := hid (show ∀ j v, (ints T.regs)[j]? = some v → vl19[1 + j]? = some v from by rw [← HS2.out]; exact HSD19.out.all)
                      have HA21 := hid (show ∀ j v, (ints T.regs)[j]? = some v → vl21[1 + j]? = some v from by rw [← HR2.out]; exact HSD21.out.all)
                      clear HST hST hLN HLN HLM HLL HBOX HBOX2
                      go_loopw [23] (fun i wr => ∃ j : Nat, j ≤ NL ∧ i = .int .i64 j ∧ Sts w wr R2 SB s4 LN) (fun i _ => NL - (intOf i).toNat)
                      case atStart => exact ⟨0, Nat.zero_le _, rfl, Sts.fr HS10.out (show Fr (fun _ => False) w9 _ by (repeat' (first | with_reducible exact Fr.refl _ _ | with_reducible apply Fr.alloc | with_reducible apply Fr.drew | with_reducible apply Fr.drewN | (with_reducible refine Fr.setCell ?_ ?_ _))))⟩
                      case round =>
                        obtain ⟨j, hj, rfl, hst⟩ := hrel
                        have HST := hid hst
                        clear hst HS10
                        by_cases hlt : j < NL
                        · have hjm : j < s2.x.mem.length := by have := HNL.out; omega
                          have hne : ints s2.x.mem ≠ [] := fun h => by have := congrArg List.length h; rw [ints_length] at this; simp only [List.length_nil] at this; omega
                          obtain ⟨r1, o1, rfl, _, hc1⟩ := (HO7.out wr (fun e he => (HST.out.keep e (HE7.out e he)).1)).vw.cell hne
                          obtain ⟨r2, o2, rfl, _, hc2⟩ := (HO9.out wr (fun e he => (HST.out.keep e (HE9.out e he)).1)).vw.cell hne
                          have n1 : wr.cell? ⟨r1, o1 + j, none⟩ = some (.int .i64 (s2.x.mem.getD j 0)) := hc1 j _ (ints_get _ j hjm)
                          have n2 : wr.cell? ⟨r2, o2 + j, none⟩ = some (.int .i64 (s2.x.mem.getD j 0)) := hc2 j _ (ints_get _ j hjm)
                          have hjn : ((j : Nat) : Int) < (NL : Nat) := by omega
                          have hnl : NL ≤ 100000 := by have := HF2.out.mem; have := HNL.out; omega
                          clear hc1 hc2 hne hjm
                          generalize s2.x.mem.getD j 0 = v at n1 n2
                          go_wp2_with (first | fail | still_step | (with_reducible refine wpStill_nil ?_) | (with_reducible refine Flow.Both.mk ?_ ?_) | (with_reducible exact True.intro) | (with_reducible refine Flow.same_mk rfl rfl rfl ?_; go_simp; done) | (with_reducible exact Flow.same_un rfl rfl rfl) | (refine Flow.region_still mixed ?hB ?_; (case hB => decide +kernel)))
                          go_roundw
                          case rel => exact ⟨j + 1, by omega, by go_num, Sts.fr HST.out (show Fr (fun _ => False) wr _ by (repeat' (first | with_reducible exact Fr.refl _ _ | with_reducible apply Fr.alloc | with_reducible apply Fr.drew | with_reducible apply Fr.drewN | (with_reducible refine Fr.setCell ?_ ?_ _))))⟩
                          case measure => simp [intOf]; omega
                        · obtain rfl : NL = j := by omega
                          have hbx := HST.out.get HBOX3.out
                          have c0_b := Blk.cell hbx 0
                          have f0_b := Blk.free hbx 0
                          have c1_b := Blk.cell hbx 1
                          have f1_b := Blk.free hbx 1
                          have c2_b := Blk.cell hbx 2
                          have f2_b := Blk.free hbx 2
                          have c3_b := Blk.cell hbx 3
                          have f3_b := Blk.free hbx 3
                          have l_b := Blk.lt hbx
                          have g12 := HST.out.get HM12.out
                          have g19 := HST.out.get HM19.out
                          have g21 := HST.out.get HM21.out
                          have q12 := (g12.cell 17).trans HSD12.out.wait
                          have q19 := (g19.cell 17).trans HSD19.out.wait
                          have q21 := (g21.cell 17).trans HSD21.out.wait
                          rw [HS3.out] at q19
                          rw [HW2'.out] at q21
                          generalize T.wait.length = TW at q12 q19 q21
                          clear hbx g12 g19 g21
                          go_wp2_with (first | fail | still_step | (with_reducible refine wpStill_nil ?_) | (with_reducible refine Flow.Both.mk ?_ ?_) | (with_reducible exact True.intro) | (with_reducible refine Flow.same_mk rfl rfl rfl ?_; go_simp; done) | (with_reducible exact Flow.same_un rfl rfl rfl) | (refine Flow.region_still mixed ?hB ?_; (case hB => decide +kernel)))
                          go_at_call 17
                          refine Calls.named fun wc hwc => ?_
                          have hST := Sts.fr HST.out (show Fr (fun _ => False) wr wc by rw [hwc]; (repeat' (first | with_reducible exact Fr.refl _ _ | with_reducible apply Fr.alloc | with_reducible apply Fr.drew | with_reducible apply Fr.drewN | (with_reducible refine Fr.setCell ?_ ?_ _))))
                          clear HST hwc
                          have HST := hid hST
                          clear hST
                          refine (count_is SB _ s4 who wc HST.out.sr).mono ?_
                          rintro e w10 ⟨rfl, hf10⟩
                          rw [HOUT.out.count]
                          have hST := HST.out.fr hf10
                          clear HST hf10
                          have HST := hid hST
                          clear hST
                          clear c0_b f0_b c1_b f1_b c2_b f2_b c3_b f3_b l_b
                          clear q12 q19 q21
                          have g12 := HST.out.get HM12.out
                          have g19 := HST.out.get HM19.out
                          have g21 := HST.out.get HM21.out
                          have p12 := (g12.cell 0).trans HSD12.out.place
                          have p19 := (g19.cell 0).trans HSD19.out.place
                          have p21 := (g21.cell 0).trans HSD21.out.place
                          rw [HS1.out] at p19
                          rw [HP2.out] at p21
                          generalize T.place = TP at p12 p19 p21
                          have G12 := hid g12
                          have G19 := hid g19
                          have G21 := hid g21
                          clear g12 g19 g21
                          go_wp2_with (first | ((with_reducible apply wpList_loadG (b := w12.heap.size) (o := 1) (C := vl12) (T := 45) (ints T.regs)); (case zlw => rfl); (case zlx => rfl); (case zlu => exact unREGS.choose_spec.1); (case zld => exact unREGS.choose_spec.2); (case zli => rw [ints_length, HT16.out]; exact szREGS); (case zlb => exact G12.out); (case zlc => exact HA12.out)) | ((with_reducible apply wpList_loadG (b := w19.heap.size) (o := 1) (C := vl19) (T := 45) (ints T.regs)); (case zlw => rfl); (case zlx => rfl); (case zlu => exact unREGS.choose_spec.1); (case zld => exact unREGS.choose_spec.2); (case zli => rw [ints_length, HT16.out]; exact szREGS); (case zlb => exact G19.out); (case zlc => exact HA19.out)) | ((with_reducible apply wpList_loadG (b := w21.heap.size) (o := 1) (C := vl21) (T := 45) (ints T.regs)); (case zlw => rfl); (case zlx => rfl); (case zlu => exact unREGS.choose_spec.1); (case zld => exact unREGS.choose_spec.2); (case zli => rw [ints_length, HT16.out]; exact szREGS); (case zlb => exact G21.out); (case zlc => exact HA21.out)) | ((with_reducible apply wpList_eqRegs T.regs T.regs); (case zlw => rfl); (case zlx => rfl); (case zly => rfl); (case zll => exact HT16.out); (case zlm => exact HT16.out); simp only [decide_true]) | still_step | (with_reducible refine wpStill_nil ?_) | (with_reducible refine Flow.Both.mk ?_ ?_) | (with_reducible exact True.intro) | (with_reducible refine Flow.same_mk rfl rfl rfl ?_; go_simp; done) | (with_reducible exact Flow.same_un rfl rfl rfl) | (refine Flow.region_still mixed ?hB ?_; (case hB => decide +kernel)))
                          go_at_call 15
                          refine Calls.named fun wc hwc => ?_
                          have hST := Sts.fr HST.out (show Fr (fun _ => False) w10 wc by rw [hwc]; (repeat' (first | with_reducible exact Fr.refl _ _ | with_reducible apply Fr.alloc | with_reducible apply Fr.drew | with_reducible apply Fr.drewN | (with_reducible refine Fr.setCell ?_ ?_ _))))
                          clear HST hwc
                          have HST := hid hST
                          clear hST
                          have hev := eventsS_is SB _ s4 wc HST.out.sr (HFB.out.room (by omega))
                          rw [HOUT.out.ev, ← HEL.out] at hev
                          refine hev.mono ?_
                          clear hev
                          rintro e w11 ⟨ea2, ec2, rfl, ho11, hf11⟩
                          have hST := HST.out.fr hf11
                          clear HST hf11
                          have HST := hid hST
                          clear hST
                          clear ho11 p12 p19 p21 G12 G19 G21
                          go_wp2_with (first | fail | still_step | (with_reducible refine wpStill_nil ?_) | (with_reducible refine Flow.Both.mk ?_ ?_) | (with_reducible exact True.intro) | (with_reducible refine Flow.same_mk rfl rfl rfl ?_; go_simp; done) | (with_reducible exact Flow.same_un rfl rfl rfl) | (refine Flow.region_still mixed ?hB ?_; (case hB => decide +kernel)))
                          go_ret
                          exact ⟨rfl, (Sts.fr HST.out (show Fr (fun _ => False) w11 _ by (repeat' (first | with_reducible exact Fr.refl _ _ | with_reducible apply Fr.alloc | with_reducible apply Fr.drew | with_reducible apply Fr.drewN | (with_reducible refine Fr.setCell ?_ ?_ _))))).fr0⟩
end Go.Proofs.Ytbfeopakmjcapaa.Sp
