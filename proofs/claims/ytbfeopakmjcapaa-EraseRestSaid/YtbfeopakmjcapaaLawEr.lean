/-
  EraseRest: with what is to be taken back nothing is open, and each thread stands as was sure; what is left of the script with that is the same.
-/
import Derived.Test.YtbfeopakmjcapaaAwake30
import Derived.Test.YtbfeopakmjcapaaErQ
import Derived.Test.YtbfeopakmjcapaaSmall30
import Derived.Test.YtbfeopakmjcapaaSpRow
set_option linter.unusedVariables false
set_option linter.unusedSimpArgs false
set_option maxHeartbeats 4000000
set_option maxRecDepth 8000
namespace Go.Proofs.Ytbfeopakmjcapaa.Sp
open Go.RowKit Go.Proofs.Ytbfeopakmjcapaa.Seq Go.Proofs.Ytbfeopakmjcapaa.Tso
attribute [local irreducible] wpStill wpList Calls CallsIn

theorem dosC_one (l : List (Int × Int)) : ∀ u ∈ dosC l, u.oneCell' = true := by
  intro u hu
  obtain ⟨a, _, h⟩ := List.mem_flatMap.1 hu
  simp at h
  rcases h with rfl | rfl <;> rfl
theorem infoTINT : (Try.prog.info? 3).map (fun i => (i.zero, i.size, i.bytes)) = some (some (.int .i64 0), 1, 8) := by kernel_rfl
theorem Sts.name {w0 w : World} {R : Nat → Prop} {SB : Nat} {s : SM} {L : List (Nat × Array Value × TypeId)} (h : Sts w0 w R SB s L) : ∃ LL, LL = L ∧ Sts w0 w R SB s LL := ⟨_, rfl, h⟩
/-- A row of the law's own, apart from the machine (R), in blocks from b on. -/
def RowT (b : Nat) (w : World) (R : Nat → Prop) (E : TypeId) (sz : Nat) (v : Value) (n : Nat) (cs : List Value) : Prop :=
  ∃ (Q : Nat → Prop) (a : Option Addr) (c : Nat), v = .slice a n c ∧ OwnAt w E sz Q a n c cs ∧ ∀ z, Q z → ¬ R z ∧ b ≤ z ∧ z < w.heap.size
namespace RowT
variable {b : Nat} {w w1 : World} {R : Nat → Prop} {E : TypeId} {sz n : Nat} {v : Value} {cs : List Value}
theorem fr (h : RowT b w R E sz v n cs) (hf : Fr (fun _ => False) w w1) : RowT b w1 R E sz v n cs := by
  obtain ⟨Q, a, c, h1, h2, h3⟩ := h
  exact ⟨Q, a, c, h1, h2.fr hf (fun _ _ h => h), fun z hz => ⟨(h3 z hz).1, (h3 z hz).2.1, Nat.lt_of_lt_of_le (h3 z hz).2.2 hf.size⟩⟩
theorem grown {Q : Nat → Prop} {a : Option Addr} {c : Nat} (hR : ∀ z, R z → z < w.heap.size) (hb : b ≤ w.heap.size) (ho : OwnAt w1 E sz (fun k => Q k ∨ w.heap.size ≤ k) a n c cs) (hQ : ∀ z, Q z → ¬ R z ∧ b ≤ z ∧ z < w.heap.size) : RowT b w1 R E sz (.slice a n c) n cs := by
  refine ⟨fun z => (Q z ∨ w.heap.size ≤ z) ∧ z < w1.heap.size, a, c, rfl, ho.mono (fun z hz h => ⟨h, hz⟩), fun z hz => ?_⟩
  rcases hz.1 with h | h
  · exact ⟨(hQ z h).1, (hQ z h).2.1, hz.2⟩
  · exact ⟨fun hr => by have := hR z hr; omega, Nat.le_trans hb h, hz.2⟩
theorem toL (h : RowT b w R E sz v n cs) :
    ∃ (L : List (Nat × Array Value × TypeId)) (a : Option Addr) (c : Nat), v = .slice a n c ∧ (∀ e ∈ L, Blk w e.1 e.2.1 e.2.2 ∧ ¬ R e.1) ∧ (∀ e ∈ L, b ≤ e.1) ∧ ∀ w', (∀ e ∈ L, Blk w' e.1 e.2.1 e.2.2) → OwnAt w' E sz (fun k => ∃ e ∈ L, k = e.1) a n c cs := by
  obtain ⟨Q, a, c, h1, h2, h3⟩ := h
  obtain ⟨L, h4, h5⟩ := own_row h2
  exact ⟨L, a, c, h1, fun e he => ⟨(h4 e he).1, (h3 _ (h4 e he).2).1⟩, fun e he => (h3 _ (h4 e he).2).2.1, h5⟩
end RowT
theorem dos_cells {w : World} {n c k rb ro : Nat} {Q : Nat → Prop} {r : List (Int × Int)} (h : OwnAt w 41 2 Q (some ⟨rb, ro, none⟩) n c (dosC r)) (hk : k < r.length) : w.cell? ⟨rb, ro + k * 2, none⟩ = some (.int .i64 r[k].1) ∧ w.cell? ⟨rb, ro + k * 2 + 1, none⟩ = some (.int .i64 r[k].2) := by
  obtain ⟨r', o', e, _, hc⟩ := h.vw.cell (dosC_ne hk)
  simp at e
  obtain ⟨rfl, rfl⟩ := e
  exact ⟨hc (k * 2) _ (dosC_get r k hk).1, hc (k * 2 + 1) _ (dosC_get r k hk).2⟩
theorem int_cells {w : World} {n c k rb ro : Nat} {Q : Nat → Prop} {r : List Int} (h : OwnAt w 3 1 Q (some ⟨rb, ro, none⟩) n c (ints r)) (hk : k < r.length) : w.cell? ⟨rb, ro + k, none⟩ = some (.int .i64 (r.getD k 0)) := by
  obtain ⟨r', o', e, _, hc⟩ := h.vw.cell (fun h => by have := congrArg List.length h; rw [ints_length] at this; simp only [List.length_nil] at this; omega)
  simp at e
  obtain ⟨rfl, rfl⟩ := e
  exact hc k _ (ints_get r k hk)

set_option maxHeartbeats 40000000 in
set_option maxRecDepth 100000 in
theorem rest_walk (ao aa a1 a2 : Option Addr) (co ac cap1 cap2 : Nat) (qs : List ((Option Addr × Nat) × List Ins)) (al : List (Int × Int × Bool)) (words locks : Int) (mem : List Int) (l : List (Int × Int)) (w : World)
    (hc : Codes w (fun k => k < w.heap.size) ao qs) (ha : Vw w 3 (fun k => k < w.heap.size) aa al.length (areaC al)) (hal : al.length ≤ 9223372036854775807) (hql : qs.length ≤ 9223372036854775807) (hi : ∀ q ∈ qs, q.2.length ≤ 9223372036854775807)
    (hm : Vw w 1 (fun k => k < w.heap.size) a1 mem.length (ints mem)) (hmn : a1 = none → mem.length = 0) (hml : mem.length ≤ 9223372036854775807) (hv : Vw w 2 (fun k => k < w.heap.size) a2 l.length (dosC l)) (hll : l.length ≤ 9223372036854775807) :
    Calls Try.prog 8 #[.agg #[.slice ao qs.length co, .slice aa al.length ac, .int .i64 words, .int .i64 locks], .slice a1 mem.length cap1, .slice a2 l.length cap2] w fun e w' => e = .returned (.bool true) ∧ Fr (fun _ => False) w w' := by
  obtain ⟨i0, hi0, hz0, hz1, hz2⟩ := info_parts infoDO
  obtain ⟨i1, hi1, hy0, hy1, hy2⟩ := info_parts infoTINT
  obtain ⟨LL, hLL⟩ : ∃ LL, LL = l.length := ⟨_, rfl⟩
  have HLL := hid hLL
  rw [← hLL] at hv hll ⊢
  have HV := hid hv
  clear hv hLL
  have HC := hid hc
  have HA := hid ha
  have HM := hid hm
  have HMN := hid hmn
  have HI := hid hi
  have hqal := hid (And.intro hql hal)
  clear hc ha hm hmn hi hql hal
  obtain ⟨QL, hQL⟩ : ∃ QL, QL = qs.length := ⟨_, rfl⟩
  have HQL := hid hQL
  rw [← hQL]
  obtain ⟨AL, hAL⟩ : ∃ AL, AL = al.length := ⟨_, rfl⟩
  have HAL := hid hAL
  rw [← hAL]
  obtain ⟨ML, hML⟩ : ∃ ML, ML = mem.length := ⟨_, rfl⟩
  have HML := hid hML
  rw [← hML] at hml ⊢
  clear hQL hAL hML
  have HX := hid (Blk.new w #[.slice ao QL co, .slice aa AL ac, .int .i64 words, .int .i64 locks] 25)
  go_enter Try.func8, Try.ntmps8
  go_wp2_with (first | still_step | (with_reducible first | refine wpStill_nil ?_ | refine Flow.Both.mk ?_ ?_ | exact True.intro) | (with_reducible refine Flow.same_mk rfl rfl rfl ?_; go_simp; done) | (with_reducible exact Flow.same_un rfl rfl rfl))
  go_at_call 19
  refine Calls.named fun wc hwc => ?_
  have hfc : Fr (fun _ => False) w wc := by rw [hwc]; (with_reducible repeat' (first | exact Fr.refl _ _ | apply Fr.alloc | apply Fr.drew | apply Fr.drewN | refine Fr.setCell ?_ ?_ _))
  have hxc : Blk wc w.heap.size #[.slice ao QL co, .slice aa AL ac, .int .i64 words, .int .i64 locks] 25 := by rw [hwc]; (repeat (first | exact HX.out | with_reducible apply Blk.drew | with_reducible apply Blk.alloc))
  refine (awake30_true _).mono ?_
  rintro e w1 ⟨rfl, hf1⟩
  have HF1 := hid (hfc.trans hf1 (fun _ _ h => h))
  have hx1 := hxc.fr hf1 (fun h => h)
  have c0_i := Blk.cell hx1 0
  have f0_i := Blk.free hx1 0
  have c1_i := Blk.cell hx1 1
  have f1_i := Blk.free hx1 1
  have c2_i := Blk.cell hx1 2
  have f2_i := Blk.free hx1 2
  have c3_i := Blk.cell hx1 3
  have f3_i := Blk.free hx1 3
  have l_i := Blk.lt hx1
  have HX1 := hid hx1
  have HC1 := hid (HC.out.fr HF1.out (fun _ _ h => h))
  have HA1 := hid (HA.out.fr HF1.out (fun _ _ h => h))
  clear hf1 HX hx1 hwc hfc hxc
  go_wp2_with (first | still_step | (with_reducible first | refine wpStill_nil ?_ | refine Flow.Both.mk ?_ ?_ | exact True.intro) | (with_reducible refine Flow.same_mk rfl rfl rfl ?_; go_simp; done) | (with_reducible exact Flow.same_un rfl rfl rfl))
  go_at_call 20
  rw [HQL.out, HAL.out]
  refine (small30_is _ _ ao aa co ac qs al words locks w1 HC1.out HA1.out hqal.out.2 hqal.out.1 HI.out).mono ?_
  rintro e w2 ⟨few, rfl, hfew, hf2⟩
  have HFEW := hid hfew
  have HF2 := hid (HF1.out.trans hf2 (fun _ _ h => h))
  have hx2 := HX1.out.fr hf2 (fun h => h)
  have HX2 := hid hx2
  clear c0_i f0_i c1_i f1_i c2_i f2_i c3_i f3_i l_i
  have c0_i := Blk.cell hx2 0
  have f0_i := Blk.free hx2 0
  have c1_i := Blk.cell hx2 1
  have f1_i := Blk.free hx2 1
  have c2_i := Blk.cell hx2 2
  have f2_i := Blk.free hx2 2
  have c3_i := Blk.cell hx2 3
  have f3_i := Blk.free hx2 3
  have l_i := Blk.lt hx2
  clear hf2 hfew HX1 hx2 HF1 HC1 HA1
  cases few with
  | false =>
    go_wp2_with (first | still_step | (with_reducible first | refine wpStill_nil ?_ | refine Flow.Both.mk ?_ ?_ | exact True.intro) | (with_reducible refine Flow.same_mk rfl rfl rfl ?_; go_simp; done) | (with_reducible exact Flow.same_un rfl rfl rfl))
    go_ret
    exact ⟨rfl, HF2.out⟩
  | true =>
    obtain ⟨hg, hwd, hln⟩ := HFEW.out rfl
    have hql4 : qs.length ≤ 4 := hg.1
    have hQ4 : QL ≤ 4 := by have := HQL.out; omega
    by_cases hm3 : 300 < ML
    · go_wp2_with (first | still_step | (with_reducible first | refine wpStill_nil ?_ | refine Flow.Both.mk ?_ ?_ | exact True.intro) | (with_reducible refine Flow.same_mk rfl rfl rfl ?_; go_simp; done) | (with_reducible exact Flow.same_un rfl rfl rfl))
      go_ret
      exact ⟨rfl, HF2.out⟩
    by_cases hl6 : 100 < LL
    · go_wp2_with (first | still_step | (with_reducible first | refine wpStill_nil ?_ | refine Flow.Both.mk ?_ ?_ | exact True.intro) | (with_reducible refine Flow.same_mk rfl rfl rfl ?_; go_simp; done) | (with_reducible exact Flow.same_un rfl rfl rfl))
      go_ret
      exact ⟨rfl, HF2.out⟩
    have HG := hid hg
    have HLN := hid hln
    obtain ⟨words, rfl⟩ : ∃ n : Nat, words = n := ⟨words.toNat, by have := hg.2.2.2.1; omega⟩
    obtain ⟨locks, rfl⟩ : ∃ n : Nat, locks = n := ⟨locks.toNat, by have := hg.2.1; omega⟩
    have hlk8 : locks ≤ 8 := by have := hg.2.2.1; omega
    clear hg hln HFEW
    go_wp2_with (first | still_step | (with_reducible first | refine wpStill_nil ?_ | refine Flow.Both.mk ?_ ?_ | exact True.intro) | (with_reducible refine Flow.same_mk rfl rfl rfl ?_; go_simp; done) | (with_reducible exact Flow.same_un rfl rfl rfl))
    go_at_call 12
    rw [HQL.out, HML.out]
    refine Calls.named fun wc hwc => ?_
    have hfc : Fr (fun _ => False) w2 wc := by rw [hwc]; (with_reducible repeat' (first | exact Fr.refl _ _ | apply Fr.alloc | apply Fr.drew | apply Fr.drewN | refine Fr.setCell ?_ ?_ _))
    have hbz : Blk wc w2.heap.size #[.int .i64 2, .int .i64 5] 35 := by rw [hwc]; exact Blk.new _ _ _
    have HF3 := hid (HF2.out.trans hfc (fun _ _ h => h))
    refine (snew_is (fun k => k < w.heap.size) (fun k => k < w.heap.size) ao a1 aa co cap1 AL ac qs words locks 2 5 mem wc (HC.out.fr HF3.out (fun _ _ h => h)) (HM.out.fr HF3.out (fun _ _ h => h)) HMN.out (by omega) (by have := HML.out; omega) (fun q hq => by have := HLN.out q hq; omega) (by omega) hlk8 (by omega) (by omega)).mono ?_
    rintro e w3 ⟨SB, rfl, hs3, hf3⟩
    obtain ⟨s0, hs0⟩ : ∃ x, x = startS (qs.map (·.2)) words mem locks 2 5 := ⟨_, rfl⟩
    rw [← hs0] at hs3
    have hft : Fits s0 0 := by
      rw [hs0]
      refine start_fits (fun c hc i hi => ?_) (by omega) (by omega) (by omega)
      obtain ⟨q, hq, rfl⟩ := List.mem_map.1 hc
      exact HG.out.2.2.2.2.2 q hq i hi
    have hx3 := HX2.out.fr (hfc.trans hf3 (fun _ _ h => h)) (fun h => h)
    have hz3 := hbz.fr hf3 (fun h => h)
    have HFT := hid hft
    have HSZ := hid hs0
    have hst3 : Sts w w3 _ SB s0 [(w.heap.size, #[.slice ao QL co, .slice aa AL ac, .int .i64 words, .int .i64 locks], 25), (w2.heap.size, #[.int .i64 2, .int .i64 5], 35)] := ⟨hs3, fun e he => (by
        have h1 := HX2.out.lt
        have h2 := hbz.lt
        have h3 := hfc.size
        rcases List.mem_cons.1 he with rfl | he
        · exact ⟨hx3, fun hr => by have h4 := hr.1; dsimp only at h4; omega⟩
        · rw [List.mem_singleton] at he
          subst he
          exact ⟨hz3, fun hr => by have h4 := hr.1; dsimp only at h4; omega⟩), HF3.out.trans hf3 (fun _ _ h => h), fun z hz => by have := HF3.out.size; exact Nat.le_trans this hz.1⟩
    obtain ⟨LI, hLI, hst⟩ := hst3.name
    have HIM := hid (show (w.heap.size, #[.slice ao QL co, .slice aa AL ac, .int .i64 words, .int .i64 locks], 25) ∈ LI by rw [hLI]; simp)
    have HZM := hid (show (w2.heap.size, #[.int .i64 2, .int .i64 5], 35) ∈ LI by rw [hLI]; simp)
    have HS0 := hid (show Sts w w3 _ SB (runs s0 (l.take 0)).1 LI from hst)
    rw [← HQL.out, ← HML.out]
    clear c0_i f0_i c1_i f1_i c2_i f2_i c3_i f3_i l_i hf3 hs3 hs0 hft hwc hfc HF3 hbz hx3 hz3 hst3 hLI hst HX2 HF2
    go_wp2_with (first | still_step | (with_reducible first | refine wpStill_nil ?_ | refine Flow.Both.mk ?_ ?_ | exact True.intro) | (with_reducible refine Flow.same_mk rfl rfl rfl ?_; go_simp; done) | (with_reducible exact Flow.same_un rfl rfl rfl))
    go_loopw [11] (fun i wr => ∃ (k : Nat) (R : Nat → Prop), k ≤ LL ∧ i = .int .i64 k ∧ Sts w wr R SB (runs s0 (l.take k)).1 LI) (fun i _ => LL - (intOf i).toNat)
    case atStart => exact ⟨0, _, Nat.zero_le _, rfl, HS0.out⟩
    case round =>
      obtain ⟨k, R, hk, rfl, hst⟩ := hrel
      have HST := hid hst
      clear hst HS0
      by_cases hlt : k < LL
      · have hkl : k < l.length := by have := HLL.out; omega
        have hne : dosC l ≠ [] := dosC_ne hkl
        obtain ⟨r0, off0, rfl, hr0, hcell⟩ := (HV.out.fr HST.out.fr0 (fun _ _ h => h)).cell hne
        have c0 : wr.cell? ⟨r0, off0 + k * 2, none⟩ = some (.int .i64 l[k].1) := hcell (k * 2) _ (dosC_get l k hkl).1
        have c1 : wr.cell? ⟨r0, off0 + k * 2 + 1, none⟩ = some (.int .i64 l[k].2) := hcell (k * 2 + 1) _ (dosC_get l k hkl).2
        have hsn := runs_snoc l[k] (l.take k) s0
        rw [← List.take_succ_eq_append_getElem hkl] at hsn
        have hfk : Fits (runs s0 (l.take k)).1 (0 + k) := by
          have := runs_fits (l.take k) HFT.out
          rwa [List.length_take, Nat.min_eq_left (Nat.le_of_lt hkl)] at this
        have HFK := hid hfk
        have HSN := hid (congrArg Prod.fst hsn)
        clear hcell hne hsn hfk
        generalize l[k] = d at *
        obtain ⟨kind, who⟩ := d
        dsimp only at c0 c1 HSN
        go_wp2_with (first | still_step | (with_reducible first | refine wpStill_nil ?_ | refine Flow.Both.mk ?_ ?_ | exact True.intro) | (with_reducible refine Flow.same_mk rfl rfl rfl ?_; go_simp; done) | (with_reducible exact Flow.same_un rfl rfl rfl))
        go_at_call 13
        refine Calls.named fun wc hwc => ?_
        have hST := Sts.fr HST.out (show Fr (fun _ => False) wr wc by rw [hwc]; (with_reducible repeat' (first | exact Fr.refl _ _ | apply Fr.alloc | apply Fr.drew | apply Fr.drewN | refine Fr.setCell ?_ ?_ _)))
        clear HST hwc
        have HST := hid hST
        clear hST
        refine (do_is SB _ ((runs s0 (l.take k)).1) (kind) (who) wc HST.out.sr HFK.out.ok (HFK.out.room (by omega)) HFK.out.mem).mono ?_
        rintro e w4 ⟨rfl, R4, hm4, hv4⟩
        have hST := HST.out.mv hm4 hv4
        clear hm4 hv4 HST
        have HST := hid hST
        clear hST
        clear c0 c1
        go_wp2_with (first | still_step | (with_reducible first | refine wpStill_nil ?_ | refine Flow.Both.mk ?_ ?_ | exact True.intro) | (with_reducible refine Flow.same_mk rfl rfl rfl ?_; go_simp; done) | (with_reducible exact Flow.same_un rfl rfl rfl))
        go_roundw
        case rel => exact ⟨k + 1, R4, by omega, by go_num, by rw [HSN.out]; exact Sts.fr HST.out (show Fr (fun _ => False) w4 _ by (with_reducible repeat' (first | exact Fr.refl _ _ | apply Fr.alloc | apply Fr.drew | apply Fr.drewN | refine Fr.setCell ?_ ?_ _)))⟩
        case measure => simp [intOf]; omega
      · obtain rfl : LL = k := by omega
        have htk : l.take LL = l := List.take_of_length_le (by rw [← HLL.out]; exact Nat.le_refl _)
        rw [htk] at HST
        have hf1 : Fits (runs s0 l).1 LL := by
          have := runs_fits l HFT.out
          rw [← HLL.out] at this
          exact this.mono (by omega)
        obtain ⟨s1, hs1⟩ : ∃ x, x = (runs s0 l).1 := ⟨_, rfl⟩
        rw [← hs1] at HST hf1
        have HS1 := hid hs1
        have HF1 := hid hf1
        clear hs1 hf1 htk hlt hk
        have hbi := HST.out.get HIM.out
        have c0_i := Blk.cell hbi 0
        have f0_i := Blk.free hbi 0
        have c1_i := Blk.cell hbi 1
        have f1_i := Blk.free hbi 1
        have c2_i := Blk.cell hbi 2
        have f2_i := Blk.free hbi 2
        have c3_i := Blk.cell hbi 3
        have f3_i := Blk.free hbi 3
        have l_i := Blk.lt hbi
        clear hbi
        go_wp2_with (first | still_step | (with_reducible first | refine wpStill_nil ?_ | refine Flow.Both.mk ?_ ?_ | exact True.intro) | (with_reducible refine Flow.same_mk rfl rfl rfl ?_; go_simp; done) | (with_reducible exact Flow.same_un rfl rfl rfl))
        go_at_call 25
        refine Calls.named fun wc hwc => ?_
        have hST := Sts.fr HST.out (show Fr (fun _ => False) wr wc by rw [hwc]; (with_reducible repeat' (first | exact Fr.refl _ _ | apply Fr.alloc | apply Fr.drew | apply Fr.drewN | refine Fr.setCell ?_ ?_ _)))
        clear HST hwc
        have HST := hid hST
        clear hST
        clear c0_i f0_i c1_i f1_i c2_i f2_i c3_i f3_i l_i
        refine (rest_is SB _ s1 QL wc HST.out.sr HF1.out.ok (by have := HQL.out; omega)).mono ?_
        rintro e w4 ⟨a4, c4, rfl, ho4, hf4⟩
        obtain ⟨L4, hLa, hLb⟩ := own_row ho4
        have hST := (Sts.fr HST.out hf4).add (fun e he => ⟨(hLa e he).1, fun hr => by have h1 := HST.out.sr.lt _ hr; have h2 := (hLa e he).2; (try dsimp only at h2); omega⟩)
        have hrl := restD_len HF1.out.ok QL
        obtain ⟨r, hr⟩ : ∃ x, x = restD s1 QL := ⟨_, rfl⟩
        rw [← hr] at hLb hrl ⊢
        obtain ⟨RL, hRL⟩ : ∃ x, x = r.length := ⟨_, rfl⟩
        have HRL := hid hRL
        rw [← hRL] at hLb hrl ⊢
        have hrl2 : RL ≤ 256 := by have := HQL.out; omega
        have HR := hid hr
        obtain ⟨LJ, hLJ, hST⟩ := hST.name
        have HO4 := hid (show ∀ w', (∀ e ∈ LJ, Blk w' e.1 e.2.1 e.2.2) → OwnAt w' 41 2 _ a4 RL c4 (dosC r) from fun w' h => hLb w' (fun e he => h e (by rw [hLJ]; simp [he])))
        have HIM4 := hid (show (w.heap.size, #[.slice ao QL co, .slice aa AL ac, .int .i64 words, .int .i64 locks], 25) ∈ LJ by rw [hLJ]; simp [HIM.out])
        have HZM4 := hid (show (w2.heap.size, #[.int .i64 2, .int .i64 5], 35) ∈ LJ by rw [hLJ]; simp [HZM.out])
        clear HIM HZM
        have HIM := HIM4
        have HZM := HZM4
        clear HST hLa hLb ho4 hf4 hr hRL hLJ hrl HIM4 HZM4
        have HST := hid hST
        have HS4 := hid hST
        clear hST
        go_wp2_with (first | still_step | (with_reducible first | refine wpStill_nil ?_ | refine Flow.Both.mk ?_ ?_ | exact True.intro) | (with_reducible refine Flow.same_mk rfl rfl rfl ?_; go_simp; done) | (with_reducible exact Flow.same_un rfl rfl rfl))
        go_loopw [13, 14] (fun v i wr => ∃ (t : Nat) (a : Option Addr) (c : Nat), t ≤ QL ∧ i = .int .i64 t ∧ v = .slice a t c ∧ OwnAt wr 3 1 (fun z => w4.heap.size ≤ z) a t c (ints (surePl s1 t)) ∧ Fr (fun _ => False) w4 wr) (fun _ i _ => QL - (intOf i).toNat)
        case atStart => exact ⟨0, none, 0, Nat.zero_le _, rfl, rfl, OwnAt.nil _ _ _ _ _, Fr.refl _ _⟩
        case round =>
          obtain ⟨t, a, c, ht, rfl, rfl, ho, hf⟩ := hrel
          have HO := hid ho
          have HF := hid hf
          have hst := HS4.out.fr hf
          clear ho hf HST
          have HST := hid hst
          clear hst
          have hbi := HST.out.get HIM.out
          have c0_i := Blk.cell hbi 0
          have f0_i := Blk.free hbi 0
          have c1_i := Blk.cell hbi 1
          have f1_i := Blk.free hbi 1
          have c2_i := Blk.cell hbi 2
          have f2_i := Blk.free hbi 2
          have c3_i := Blk.cell hbi 3
          have f3_i := Blk.free hbi 3
          have l_i := Blk.lt hbi
          clear hbi
          by_cases hlt : t < QL
          · have hlt2 : ((t : Nat) : Int) < (QL : Nat) := by omega
            go_wp2_with (first | still_step | (with_reducible first | refine wpStill_nil ?_ | refine Flow.Both.mk ?_ ?_ | exact True.intro) | (with_reducible refine Flow.same_mk rfl rfl rfl ?_; go_simp; done) | (with_reducible exact Flow.same_un rfl rfl rfl))
            go_at_call 18
            refine Calls.named fun wc hwc => ?_
            have hfwc : Fr (fun _ => False) wr wc := by rw [hwc]; (with_reducible repeat' (first | exact Fr.refl _ _ | apply Fr.alloc | apply Fr.drew | apply Fr.drewN | refine Fr.setCell ?_ ?_ _))
            have hST := Sts.fr HST.out hfwc
            have HFW := hid hfwc
            clear HST hwc hfwc
            have HST := hid hST
            clear hST
            clear c0_i f0_i c1_i f1_i c2_i f2_i c3_i f3_i l_i
            have hti := sure_is SB _ s1 t wc HST.out.sr HF1.out.ok
            have h16 := sure16 HF1.out.ok t
            have hsp := surePl_succ s1 t
            refine hti.mono ?_
            rintro e w5 ⟨ta, tc, rfl, ho5, hf5⟩
            obtain ⟨vl, hvl⟩ : ∃ vl, vl = (standV (s1.sure t) ta tc).toArray := ⟨_, rfl⟩
            have hfp : Sem.run Try.prog (Instr.field 45 (.agg vl) 0) w5 = .ok (.int .i64 (s1.sure t).place) w5 := by rw [hvl]; exact field_place _ ta tc h16 w5
            rw [← hvl]
            obtain ⟨pl, hpl⟩ : ∃ p, p = (s1.sure t).place := ⟨_, rfl⟩
            rw [← hpl] at hfp hsp
            have HSP := hid hsp
            have HF5 := hid (HF.out.trans (HFW.out.trans hf5 (fun _ _ h => h)) (fun _ _ h => h))
            have HO5 := hid (HO.out.fr (S := fun _ => False) (HFW.out.trans hf5 (fun _ _ h => h)) (fun _ _ h => h))
            clear ho5 hti hvl h16 hsp hpl hf5 HFW HO HF HST
            go_wp2_with (first | (at_builtin; refine wpList_append_Own _ rfl (.tmp 67) (.tmp 72) 60 rfl 3 i1 (.int .i64 0) 1 8 Try.underlying60 hi1 hy0 hy1 hy2 rfl (by decide) (fun z => w4.heap.size ≤ z) (fun _ => True) a t c (ints (surePl s1 t)) rfl ?own (some ⟨w5.heap.size, 0, none⟩) 1 1 (ints [pl]) rfl ?vw ?one ?b1 ?b2 ?grow) | still_step | (with_reducible first | refine wpStill_nil ?_ | refine Flow.Both.mk ?_ ?_ | exact True.intro) | (with_reducible refine Flow.same_mk rfl rfl rfl ?_; go_simp; done) | (with_reducible exact Flow.same_un rfl rfl rfl))
            case own => exact HO5.out.fr (S := fun _ => False) (by (with_reducible repeat' (first | exact Fr.refl _ _ | apply Fr.alloc | apply Fr.drew | apply Fr.drewN | refine Fr.setCell ?_ ?_ _))) (fun _ _ h => h)
            case vw =>
              have key : ∀ W : World, Blk W w5.heap.size #[.int .i64 pl] 3 → Vw W 1 (fun _ => True) (some ⟨w5.heap.size, 0, none⟩) 1 (ints [pl]) := fun W hb => Vw.of_blk (sz := 1) (n := 1) (R := fun _ => True) hb trivial rfl
              exact key _ (by (repeat (with_reducible apply Blk.drew)); exact Blk.new _ _ _)
            case one => exact ints_one _
            case b1 => unfold maxLen; omega
            case b2 => omega
            case grow =>
              intro ao' cap' w6 ho6 hf6
              have hfw : Fr (fun _ => False) w4 w6 := (HF5.out.trans (show Fr (fun _ => False) w5 _ by (with_reducible repeat' (first | exact Fr.refl _ _ | apply Fr.alloc | apply Fr.drew | apply Fr.drewN | refine Fr.setCell ?_ ?_ _))) (fun _ _ h => h)).trans hf6 (fun z hz h => by have h' : w4.heap.size ≤ z := h; omega)
              have hwr := HF5.out.size
              have HO6 := hid (ho6.mono (R2 := fun z => w4.heap.size ≤ z) (fun z _ h => by
                rcases h with h | h
                · exact h
                · (try simp at h); omega))
              have HF6 := hid hfw
              clear ho6 hf6 hfw HO5 HF5 hwr hfp
              go_wp2_with (first | still_step | (with_reducible first | refine wpStill_nil ?_ | refine Flow.Both.mk ?_ ?_ | exact True.intro) | (with_reducible refine Flow.same_mk rfl rfl rfl ?_; go_simp; done) | (with_reducible exact Flow.same_un rfl rfl rfl))
              go_roundw
              case rel =>
                refine ⟨t + 1, ao', cap', by omega, by go_num, rfl, ?_, HF6.out.trans (show Fr (fun _ => False) w6 _ by (with_reducible repeat' (first | exact Fr.refl _ _ | apply Fr.alloc | apply Fr.drew | apply Fr.drewN | refine Fr.setCell ?_ ?_ _))) (fun _ _ h => h)⟩
                rw [HSP.out, ints_append]
                exact HO6.out.fr (S := fun _ => False) (show Fr (fun _ => False) w6 _ by (with_reducible repeat' (first | exact Fr.refl _ _ | apply Fr.alloc | apply Fr.drew | apply Fr.drewN | refine Fr.setCell ?_ ?_ _))) (fun _ _ h => h)
              case measure => simp [intOf]; omega
          · obtain rfl : t = QL := by omega
            obtain ⟨L5, hLa, hLb⟩ := own_row HO.out
            have hST := HST.out.add (fun e he => ⟨(hLa e he).1, fun hr => by have h1 := HS4.out.sr.lt _ hr; have h2 := (hLa e he).2; (try dsimp only at h2); omega⟩)
            obtain ⟨LK, hLK, hST⟩ := hST.name
            have HO5 := hid (show ∀ w', (∀ e ∈ LK, Blk w' e.1 e.2.1 e.2.2) → OwnAt w' 3 1 _ a t c (ints (surePl s1 t)) from fun w' h => hLb w' (fun e he => h e (by rw [hLK]; simp [he])))
            have HO4' := hid (show ∀ w', (∀ e ∈ LK, Blk w' e.1 e.2.1 e.2.2) → OwnAt w' 41 2 _ a4 RL c4 (dosC r) from fun w' h => HO4.out w' (fun e he => h e (by rw [hLK]; simp [he])))
            have HIM5 := hid (show (w.heap.size, #[.slice ao t co, .slice aa AL ac, .int .i64 words, .int .i64 locks], 25) ∈ LK by rw [hLK]; simp [HIM.out])
            have HZM5 := hid (show (w2.heap.size, #[.int .i64 2, .int .i64 5], 35) ∈ LK by rw [hLK]; simp [HZM.out])
            clear HIM HZM HO4
            have HIM := HIM5
            have HZM := HZM5
            have HO4 := HO4'
            obtain ⟨bb, hbb⟩ : ∃ b, b = wr.heap.size := ⟨_, rfl⟩
            have HLB := hid (show ∀ e ∈ LK, e.1 < bb by rw [hbb]; exact fun e he => (hST.keep e he).1.lt)
            have HWB := hid (show w.heap.size ≤ bb by rw [hbb]; exact hST.fr0.size)
            clear HST hLa hLb hLK HIM5 HZM5 HO4' HO HF HS4
            have HST := hid hST
            clear hST hlt ht
            go_wp2_with (first | (at_builtin; refine wpList_append_Own _ rfl (.tmp 74) (.tmp 75) 27 rfl 41 i0 (.agg #[.int .i64 0, .int .i64 0]) 2 16 Try.underlying27 hi0 hz0 hz1 hz2 rfl (by decide) (fun _ => False) (fun k => k < w.heap.size) none 0 0 [] rfl ?own a2 LL cap2 (dosC l) rfl ?vw ?one ?b1 ?b2 ?grow) | still_step | (with_reducible first | refine wpStill_nil ?_ | refine Flow.Both.mk ?_ ?_ | exact True.intro) | (with_reducible refine Flow.same_mk rfl rfl rfl ?_; go_simp; done) | (with_reducible exact Flow.same_un rfl rfl rfl))
            case own => exact OwnAt.nil _ _ _ _ _
            case vw => exact HV.out.fr (HST.out.fr0.trans (show Fr (fun _ => False) wr _ by (with_reducible repeat' (first | exact Fr.refl _ _ | apply Fr.alloc | apply Fr.drew | apply Fr.drewN | refine Fr.setCell ?_ ?_ _))) (fun _ _ h => h)) (fun _ _ h => h)
            case one => exact dosC_one _
            case b1 => unfold maxLen; omega
            case b2 => omega
            case grow =>
            intro ao6 cap6 w7 ho7 hf7
            (try simp only [Nat.zero_add, List.nil_append] at ho7)
            (try simp only [Nat.zero_add])
            have hfw : Fr (fun _ => False) wr w7 := (show Fr (fun _ => False) wr _ by (with_reducible repeat' (first | exact Fr.refl _ _ | apply Fr.alloc | apply Fr.drew | apply Fr.drewN | refine Fr.setCell ?_ ?_ _))).trans hf7 (fun _ _ h => h)
            have hrow : RowT bb w7 R 41 2 (.slice ao6 LL cap6) (LL + 0) (dosC (l ++ r.take 0)) := by
              simp only [List.take_zero, List.append_nil, Nat.add_zero]
              exact RowT.grown (w := wr) (Q := fun _ => False) HST.out.sr.lt (Nat.le_of_eq hbb) (ho7.mono (fun z _ h => by first | exact Or.inr h | (try simp at h; exact Or.inr (by omega)) | exact h)) (fun z hz => hz.elim)
            have HS7 := hid (show Sts w w7 R SB (runs s1 (r.take 0)).1 LK from Sts.fr HST.out hfw)
            have HRW := hid hrow
            have HB7 := hid (show bb ≤ w7.heap.size by rw [hbb]; exact hfw.size)
            clear HST ho7 hf7 hfw hrow hbb
            go_wp2_with (first | still_step | (with_reducible first | refine wpStill_nil ?_ | refine Flow.Both.mk ?_ ?_ | exact True.intro) | (with_reducible refine Flow.same_mk rfl rfl rfl ?_; go_simp; done) | (with_reducible exact Flow.same_un rfl rfl rfl))
            go_loopw [15, 16] (fun v i wr => ∃ (k : Nat) (R : Nat → Prop), k ≤ RL ∧ i = .int .i64 k ∧ bb ≤ wr.heap.size ∧ Sts w wr R SB (runs s1 (r.take k)).1 LK ∧ RowT bb wr R 41 2 v (LL + k) (dosC (l ++ r.take k))) (fun _ i _ => RL - (intOf i).toNat)
            case atStart => exact ⟨0, R, Nat.zero_le _, rfl, by first | exact HB7.out | (have := HB7.out; simp; omega), Sts.fr HS7.out (show Fr (fun _ => False) w7 _ by (with_reducible repeat' (first | exact Fr.refl _ _ | apply Fr.alloc | apply Fr.drew | apply Fr.drewN | refine Fr.setCell ?_ ?_ _))), RowT.fr HRW.out (show Fr (fun _ => False) w7 _ by (with_reducible repeat' (first | exact Fr.refl _ _ | apply Fr.alloc | apply Fr.drew | apply Fr.drewN | refine Fr.setCell ?_ ?_ _)))⟩
            case round =>
              obtain ⟨k, R2, hk, rfl, hbw, hst, hrow⟩ := hrel
              obtain ⟨L, ra, rc, rfl, hLa, hL0, hLo⟩ := hrow.toL
              have HST := hid (hst.add hLa)
              have HL0 := hid hL0
              have HLO := hid hLo
              clear hst hrow hLa hL0 hLo HS7 HRW
              by_cases hlt : k < RL
              · have hkr : k < r.length := by have := HRL.out; omega
                have hne : dosC r ≠ [] := dosC_ne hkr
                obtain ⟨rb, ro, rfl, _, _⟩ := (HO4.out wr (fun e he => (HST.out.keep e (by simp [he])).1)).vw.cell hne
                have h4 : r[k].1 = 4 := by
                  have := rest_kind s1 t r[k]
                  rw [← HR.out] at this
                  exact this (List.getElem_mem hkr)
                have hrs : ((runs s1 (r.take k)).1.doIt r[k].1 r[k].2).2.2 = true := by
                  have := rest_step HF1.out.ok t k (by rw [← HR.out]; exact hkr)
                  simpa only [← HR.out] using this
                have hsn := congrArg Prod.fst (runs_snoc r[k] (r.take k) s1)
                have htk := List.take_succ_eq_append_getElem hkr
                rw [← htk] at hsn
                have hfk : Fits (runs s1 (r.take k)).1 (LL + k) := by
                  have := runs_fits (r.take k) HF1.out
                  rwa [List.length_take, Nat.min_eq_left (Nat.le_of_lt hkr)] at this
                have HRC := hid (show ∀ W : World, (∀ e ∈ LK, Blk W e.1 e.2.1 e.2.2) → W.cell? ⟨rb, ro + k * 2, none⟩ = some (.int .i64 4) ∧ W.cell? ⟨rb, ro + k * 2 + 1, none⟩ = some (.int .i64 r[k].2) from fun W h => by
                  have := dos_cells (HO4.out W h) hkr
                  rw [h4] at this
                  exact this)
                have hpair : r[k] = (4, r[k].2) := Prod.ext h4 rfl
                rw [hpair] at hrs hsn htk
                obtain ⟨who, hwho⟩ : ∃ x, x = r[k].2 := ⟨_, rfl⟩
                rw [← hwho] at hrs hsn htk HRC
                dsimp only at hrs hsn
                obtain ⟨⟨s2, ⟨kk, kt, kw, kn⟩, is1⟩, hres⟩ : ∃ x, x = (runs s1 (r.take k)).1.doIt 4 who := ⟨_, rfl⟩
                rw [← hres] at hrs hsn
                dsimp only at hrs hsn
                subst hrs
                have HRES := hid hres
                have HSN := hid hsn
                have HTK := hid htk
                have HFK := hid hfk
                obtain ⟨c0, c1⟩ := HRC.out wr (fun e he => (HST.out.keep e (by simp [he])).1)
                clear hres hsn htk hfk h4 hpair hwho hne
                go_wp2_with (first | still_step | (with_reducible first | refine wpStill_nil ?_ | refine Flow.Both.mk ?_ ?_ | exact True.intro) | (with_reducible refine Flow.same_mk rfl rfl rfl ?_; go_simp; done) | (with_reducible exact Flow.same_un rfl rfl rfl))
                go_at_call 13
                refine Calls.named fun wc hwc => ?_
                have hfwc : Fr (fun _ => False) wr wc := by rw [hwc]; (with_reducible repeat' (first | exact Fr.refl _ _ | apply Fr.alloc | apply Fr.drew | apply Fr.drewN | refine Fr.setCell ?_ ?_ _))
                have hST := Sts.fr HST.out hfwc
                have HFW := hid hfwc
                clear HST hwc hfwc
                have HST := hid hST
                clear hST
                have hdi := do_is SB _ (runs s1 (r.take k)).1 4 who wc HST.out.sr HFK.out.ok (HFK.out.room (by omega)) HFK.out.mem
                rw [← HRES.out] at hdi
                refine hdi.mono ?_
                clear hdi
                rintro e w6 ⟨rfl, R6, hm6, hv6⟩
                have hb6 : bb ≤ w6.heap.size := by have h1 := HFW.out.size; have h2 := hv6.2.2.size; omega
                have hST := HST.out.mv hm6 hv6
                clear hm6 hv6 HST
                have HST := hid hST
                clear hST c0 c1
                dsimp only [leakV]
                obtain ⟨Q, hQe⟩ : ∃ Q : Nat → Prop, Q = (fun k => ∃ e ∈ L, k = e.1) := ⟨_, rfl⟩
                have hoq := HLO.out
                rw [← hQe] at hoq
                have HOQ := hid hoq
                have HQE := hid hQe
                clear hoq hQe
                go_wp2_with (first | ((with_reducible apply wpList_allocA (ty := 37) #[.int .i64 0, .int .i64 0, .int .i64 0, .int .i64 0]); (case zai => exact zLK); (case zac => rfl); intro wA hbA hfA hsA; have HBA := hid hbA; have HFA := hid hfA; clear hbA hfA hsA) | ((with_reducible apply wpList_storeA (b := w6.heap.size) (C := #[.int .i64 0, .int .i64 0, .int .i64 0, .int .i64 0]) (cells := #[.int .i64 kk, .int .i64 kt, .int .i64 kw, .int .i64 kn]) (T := 37)); (case zsx => rfl); (case zsy => rfl); (case zsn => rfl); (case zsi => exact szLK); (case zs1 => rfl); (case zsb => exact HBA.out); intro wS6 hbS hfS hsS; have HB6 := hid (show bb ≤ wS6.heap.size by have := (fr_made HFA.out hfS (Nat.le_refl _)).size; omega); have hST := Sts.fr HST.out (fr_made HFA.out hfS (Nat.le_refl _)); clear HST HBA HFA hbS hfS hsS; have HST := hid hST; have cR := HRC.out wS6 (fun e he => (hST.keep e (by simp [he])).1); have c0 := cR.1; have c1 := cR.2; clear hST cR) | (at_builtin; refine wpList_append_Own _ rfl (.tmp 92) (.tmp 97) 27 rfl 41 i0 (.agg #[.int .i64 0, .int .i64 0]) 2 16 Try.underlying27 hi0 hz0 hz1 hz2 rfl (by decide) Q (fun _ => True) ra (LL + k) rc (dosC (l ++ r.take k)) rfl ?own (some ⟨wS6.heap.size, 0, none⟩) 1 1 (dosC [(4, who)]) rfl ?vw ?one ?b1 ?b2 ?grow) | still_step | (with_reducible first | refine wpStill_nil ?_ | refine Flow.Both.mk ?_ ?_ | exact True.intro) | (with_reducible refine Flow.same_mk rfl rfl rfl ?_; go_simp; done) | (with_reducible exact Flow.same_un rfl rfl rfl))
                case own => exact (HOQ.out wS6 (fun e he => (HST.out.keep e (List.mem_append.2 (.inl he))).1)).fr (S := fun _ => False) (by (with_reducible repeat' (first | exact Fr.refl _ _ | apply Fr.alloc | apply Fr.drew | apply Fr.drewN | refine Fr.setCell ?_ ?_ _))) (fun _ _ h => h)
                case vw =>
                  have key : ∀ W : World, Blk W wS6.heap.size #[.int .i64 4, .int .i64 who] 41 → Vw W 2 (fun _ => True) (some ⟨wS6.heap.size, 0, none⟩) 1 (dosC [(4, who)]) := fun W hb => Vw.of_blk (sz := 2) (n := 1) (R := fun _ => True) hb trivial rfl
                  exact key _ (by (repeat (with_reducible apply Blk.drew)); exact Blk.new _ _ _)
                case one => exact dosC_one _
                (try (case b1 => unfold maxLen; omega))
                (try (case b2 => omega))
                case grow =>
                  intro ao' cap' w8 ho8 hf8
                  have hQ : ∀ z, Q z → ¬ R6 z ∧ bb ≤ z ∧ z < wS6.heap.size := fun z hz => by
                    rw [HQE.out] at hz
                    obtain ⟨e, he, rfl⟩ := hz
                    have hk := HST.out.keep e (List.mem_append.2 (.inl he))
                    exact ⟨hk.2, HL0.out e he, hk.1.lt⟩
                  have hfb : Fr (fun _ => False) wS6 _ := (Fr.refl (fun _ => False) wS6).alloc (.cells #[.int .i64 4, .int .i64 who] 41)
                  have hSTb := HST.out.fr hfb
                  have hrow8 : RowT bb w8 R6 41 2 (.slice ao' (LL + k + 1) cap') (LL + (k + 1)) (dosC (l ++ r.take (k + 1))) := by
                    rw [HTK.out, ← List.append_assoc, dosC_app (l ++ r.take k)]
                    exact RowT.grown (w := wS6.alloc (.cells #[.int .i64 4, .int .i64 who] 41)) hSTb.sr.lt (by have := HB6.out; simp; omega) (by simpa using ho8) (fun z hz => ⟨(hQ z hz).1, (hQ z hz).2.1, by have := (hQ z hz).2.2; simp; omega⟩)
                  have hST := Sts.own (hSTb.less (L2 := LK) (fun e he => List.mem_append.2 (.inr he))) hf8 (fun z hz => ⟨(hQ z hz).1, by have := (hQ z hz).2.1; have := HWB.out; omega⟩) (fun e he hq => by
                    have h1 := (hQ _ hq).2.1
                    have h2 := HLB.out e he
                    omega)
                  clear HST
                  have HST := hid hST
                  have HRW := hid hrow8
                  have hb8 : bb ≤ w8.heap.size := by have h1 := hf8.size; have h2 := HB6.out; simp at h1; omega
                  clear hST hSTb hfb hQ ho8 hf8 hrow8 c0 c1
                  obtain ⟨c0, c1⟩ := HRC.out w8 (fun e he => (HST.out.keep e he).1)
                  go_wp2_with (first | still_step | (with_reducible first | refine wpStill_nil ?_ | refine Flow.Both.mk ?_ ?_ | exact True.intro) | (with_reducible refine Flow.same_mk rfl rfl rfl ?_; go_simp; done) | (with_reducible exact Flow.same_un rfl rfl rfl))
                  go_roundw
                  case rel => exact ⟨k + 1, R6, by omega, by go_num, by first | exact hb8 | (simp; omega), by rw [HSN.out]; exact Sts.fr HST.out (show Fr (fun _ => False) w8 _ by (with_reducible repeat' (first | exact Fr.refl _ _ | apply Fr.alloc | apply Fr.drew | apply Fr.drewN | refine Fr.setCell ?_ ?_ _))), RowT.fr HRW.out (show Fr (fun _ => False) w8 _ by (with_reducible repeat' (first | exact Fr.refl _ _ | apply Fr.alloc | apply Fr.drew | apply Fr.drewN | refine Fr.setCell ?_ ?_ _)))⟩
                  case measure => simp [intOf]; omega
              · obtain rfl : k = RL := by omega
                have htk : r.take k = r := List.take_of_length_le (by rw [← HRL.out]; exact Nat.le_refl _)
                rw [htk] at HST HLO
                have hra := rest_all HF1.out.ok t
                rw [← HR.out] at hra
                obtain ⟨r1, r2, r3, _⟩ := hra
                obtain ⟨s2, hs2⟩ : ∃ x, x = (runs s1 r).1 := ⟨_, rfl⟩
                rw [← hs2] at HST r1 r3
                have HR1 := hid r1
                have HR2 := hid r2
                have HR3 := hid r3
                obtain ⟨LM, hLM, hST⟩ := HST.out.name
                have HST := hid hST
                obtain ⟨lt, hlt'⟩ : ∃ x, x = l ++ r := ⟨_, rfl⟩
                obtain ⟨LT, hLT⟩ : ∃ x, x = LL + k := ⟨_, rfl⟩
                rw [← hlt', ← hLT] at HLO
                rw [← hLT]
                have HLT := hid (show LT = lt.length by rw [hlt', hLT, List.length_append, ← HLL.out, ← HRL.out])
                have HLTE := hid hlt'
                have hLT3 : LT ≤ 356 := by omega
                have HOA := hid (show ∀ w', (∀ e ∈ LM, Blk w' e.1 e.2.1 e.2.2) → OwnAt w' 41 2 _ ra LT rc (dosC lt) from fun w' h => HLO.out w' (fun e he => h e (by rw [hLM]; simp [he])))
                have HO5' := hid (show ∀ w', (∀ e ∈ LM, Blk w' e.1 e.2.1 e.2.2) → OwnAt w' 3 1 _ a t c (ints (surePl s1 t)) from fun w' h => HO5.out w' (fun e he => h e (by rw [hLM]; simp [he])))
                have HIM6 := hid (show (w.heap.size, #[.slice ao t co, .slice aa AL ac, .int .i64 words, .int .i64 locks], 25) ∈ LM by rw [hLM]; simp [HIM.out])
                have HZM6 := hid (show (w2.heap.size, #[.int .i64 2, .int .i64 5], 35) ∈ LM by rw [hLM]; simp [HZM.out])
                clear HIM HZM HO5
                have HIM := HIM6
                have HZM := HZM6
                have HO5 := HO5'
                have HS9 := HST
                clear HIM6 HZM6 HO5' HLO HL0 HO4 hLM hlt' hLT hST r1 r2 r3 hs2 htk hlt hk hbw HLB HWB
                go_wp2_with (first | still_step | (with_reducible first | refine wpStill_nil ?_ | refine Flow.Both.mk ?_ ?_ | exact True.intro) | (with_reducible refine Flow.same_mk rfl rfl rfl ?_; go_simp; done) | (with_reducible exact Flow.same_un rfl rfl rfl))
                go_loopw [19] (fun i wr => ∃ (j : Nat), j ≤ t ∧ i = .int .i64 j ∧ Sts w wr R2 SB s2 LM) (fun i _ => t - (intOf i).toNat)
                case atStart => exact ⟨0, Nat.zero_le _, rfl, Sts.fr HS9.out (show Fr (fun _ => False) wr _ by (with_reducible repeat' (first | exact Fr.refl _ _ | apply Fr.alloc | apply Fr.drew | apply Fr.drewN | refine Fr.setCell ?_ ?_ _)))⟩
                case round =>
                  obtain ⟨j, hj, rfl, hst⟩ := hrel
                  clear HST HS9
                  have HST := hid hst
                  clear hst
                  have hbi := HST.out.get HIM.out
                  have c0_i := Blk.cell hbi 0
                  have f0_i := Blk.free hbi 0
                  have c1_i := Blk.cell hbi 1
                  have f1_i := Blk.free hbi 1
                  have c2_i := Blk.cell hbi 2
                  have f2_i := Blk.free hbi 2
                  have c3_i := Blk.cell hbi 3
                  have f3_i := Blk.free hbi 3
                  have l_i := Blk.lt hbi
                  clear hbi
                  by_cases hlt : j < t
                  · have hlt2 : ((j : Nat) : Int) < (t : Nat) := by omega
                    have hjp : j < (surePl s1 t).length := by rw [surePl_len]; exact hlt
                    have hne : ints (surePl s1 t) ≠ [] := fun h => by have := congrArg List.length h; rw [ints_length] at this; simp only [List.length_nil] at this; omega
                    obtain ⟨pb, po, rfl, _, _⟩ := (HO5.out wr (fun e he => (HST.out.keep e he).1)).vw.cell hne
                    have HPC := hid (show ∀ W : World, (∀ e ∈ LM, Blk W e.1 e.2.1 e.2.2) → W.cell? ⟨pb, po + j, none⟩ = some (.int .i64 (s1.sure (j : Nat)).place) from fun W h => by
                      have := int_cells (HO5.out W h) hjp
                      rw [surePl_get s1 hlt] at this
                      exact this)
                    obtain ⟨g1, g2⟩ := HR3.out j hlt
                    have HC0 := hid g1
                    obtain ⟨pl, hpl⟩ : ∃ x, x = (s1.sure (j : Nat)).place := ⟨_, rfl⟩
                    rw [← hpl] at HPC g2
                    have HG2 := hid g2
                    have h16 := hid (th16 HR1.out j)
                    have c0 := HPC.out wr (fun e he => (HST.out.keep e he).1)
                    clear hjp hne hpl g1 g2
                    go_wp2_with (first | still_step | (with_reducible first | refine wpStill_nil ?_ | refine Flow.Both.mk ?_ ?_ | exact True.intro) | (with_reducible refine Flow.same_mk rfl rfl rfl ?_; go_simp; done) | (with_reducible exact Flow.same_un rfl rfl rfl) | (with_reducible refine Flow.region_flow (id := 31) [0, 0, 3, 7, 15, 31, 31, 127, 255, 31, 31, 1567, 3615, 8191, 16383] 132 14600 [(0, none), (1, none), (2, some []), (3, none), (4, none), (5, none), (6, none), (9, none), (10, none), (11, none), (12, none), (7, some [11, 12]), (8, none), (13, none), (14, none)] mixed ?hB ?_; (case hB => decide +kernel); simp only [Flow.textOf, Flow.q1, Flow.q2, Flow.q3, Flow.q4, Flow.q5, Flow.q6, Flow.q7, Flow.q8, Flow.q9, Flow.wpFl, Flow.SameAll]) | (with_reducible refine Flow.region_flow (id := 34) [0, 0, 2, 6, 15, 31, 63, 127, 255, 255, 255, 255, 4095, 255, 255, 255, 255, 131071, 262143, 524287, 1048575, 2097151, 4194303, 8388607, 4194303, 4194303, 4194303, 4194303, 255852543, 524287999, 4194303, 1077936127, 4282384383, 8589934591, 17179869183, 34359738367, 68719476735, 68719476735, 68719476735, 68719476735, 1099511627775, 68719476735, 4398046511103, 8796093022207, 17592186044415, 35184372088831] 14293920518160 359258957166 [(0, none), (1, none), (2, none), (3, none), (4, some []), (5, none), (6, none), (7, none), (8, none), (9, none), (10, none), (11, none), (13, none), (14, none), (15, none), (16, none), (12, some [13, 15]), (17, some []), (18, some []), (19, some []), (20, none), (21, none), (22, none), (23, none), (24, none), (25, none), (26, none), (27, none), (30, none), (31, none), (28, some [23, 31]), (29, none), (32, none), (33, none), (34, none), (35, none), (36, none), (37, none), (38, none), (39, none), (41, none), (40, some []), (42, some []), (43, some []), (44, none), (45, none)] mixed ?hB ?_; (case hB => decide +kernel); simp only [Flow.textOf, Flow.q1, Flow.q2, Flow.q3, Flow.q4, Flow.q5, Flow.q6, Flow.q7, Flow.q8, Flow.q9, Flow.wpFl, Flow.SameAll]) | (refine Flow.region_still mixed ?hB ?_; (case hB => decide +kernel)))
                    go_at_call 17
                    refine Calls.named fun wc hwc => ?_
                    have hST := Sts.fr HST.out (show Fr (fun _ => False) wr wc by rw [hwc]; (with_reducible repeat' (first | exact Fr.refl _ _ | apply Fr.alloc | apply Fr.drew | apply Fr.drewN | refine Fr.setCell ?_ ?_ _)))
                    clear HST hwc
                    have HST := hid hST
                    clear hST
                    clear c0_i f0_i c1_i f1_i c2_i f2_i c3_i f3_i l_i
                    refine (count_is SB _ s2 j wc HST.out.sr).mono ?_
                    rintro e w8 ⟨rfl, hf8⟩
                    rw [HC0.out]
                    have hST := HST.out.fr hf8
                    clear HST hf8
                    have HST := hid hST
                    clear hST
                    clear c0
                    have c0 := HPC.out w8 (fun e he => (HST.out.keep e he).1)
                    go_wp2_with (first | still_step | (with_reducible first | refine wpStill_nil ?_ | refine Flow.Both.mk ?_ ?_ | exact True.intro) | (with_reducible refine Flow.same_mk rfl rfl rfl ?_; go_simp; done) | (with_reducible exact Flow.same_un rfl rfl rfl))
                    go_at_call 14
                    refine Calls.named fun wc hwc => ?_
                    have hST := Sts.fr HST.out (show Fr (fun _ => False) w8 wc by rw [hwc]; (with_reducible repeat' (first | exact Fr.refl _ _ | apply Fr.alloc | apply Fr.drew | apply Fr.drewN | refine Fr.setCell ?_ ?_ _)))
                    clear HST hwc
                    have HST := hid hST
                    clear hST
                    refine (sthread_is SB _ s2 j wc HST.out.sr).mono ?_
                    rintro e w9 ⟨ta, tc, rfl, ho9, hf9⟩
                    clear ho9
                    have hST := HST.out.fr hf9
                    clear HST hf9
                    have HST := hid hST
                    clear hST
                    clear c0
                    have c0 := HPC.out w9 (fun e he => (HST.out.keep e he).1)
                    obtain ⟨vl, hvl⟩ : ∃ vl, vl = (standV ((s2.x.th (j : Nat)).getD noTh) ta tc).toArray := ⟨_, rfl⟩
                    have hfp : Sem.run Try.prog (Instr.field 45 (.agg vl) 0) w9 = .ok (.int .i64 pl) w9 := by rw [hvl, ← HG2.out]; exact field_place _ ta tc h16.out w9
                    rw [← hvl]
                    clear hvl
                    go_wp2_with (first | still_step | (with_reducible first | refine wpStill_nil ?_ | refine Flow.Both.mk ?_ ?_ | exact True.intro) | (with_reducible refine Flow.same_mk rfl rfl rfl ?_; go_simp; done) | (with_reducible exact Flow.same_un rfl rfl rfl))
                    go_roundw
                    case rel => exact ⟨j + 1, by omega, by go_num, Sts.fr HST.out (show Fr (fun _ => False) w9 _ by (with_reducible repeat' (first | exact Fr.refl _ _ | apply Fr.alloc | apply Fr.drew | apply Fr.drewN | refine Fr.setCell ?_ ?_ _)))⟩
                    case measure => simp [intOf]; omega
                  · obtain rfl : j = t := by omega
                    clear c0_i f0_i c1_i f1_i c2_i f2_i c3_i f3_i l_i
                    have hrt := rest_runs (s0 := s0) (l := l) (n := j) (by rw [← HS1.out]; exact HF1.out.ok)
                    rw [← HS1.out, ← HR.out, ← HLTE.out] at hrt
                    have hbr := bare_rest (runs s0 l).2 (r := r) (fun d hd => by rw [HR.out] at hd; exact rest_kind s1 j d hd)
                    rw [← hrt] at hbr
                    have hag := congrArg (fun x => x.2.map projD) (runs_again lt s0)
                    (try dsimp only at hag)
                    have hlg : ((runs s0 lt).2.map projD).length = ((runs s0 l).2.map projD).length + k := by rw [hrt, List.map_append, List.length_append, List.length_map, List.length_map, List.length_map, ← HRL.out]
                    have hlm : ((runs s0 l).2.map projD).length ≤ 100 := by have h1 := runs_len l s0; have h2 := HLL.out; rw [List.length_map]; omega
                    have hlb : (bareD (runs s0 l).2).length ≤ 100 := by have h1 := runs_len l s0; have h2 := bareD_len (runs s0 l).2; have h3 := HLL.out; omega
                    have hrn := rest_none s2 j (fun i hi => (HR3.out i hi).1)
                    obtain ⟨LG, hLG⟩ : ∃ x, x = (runs s0 lt).2.map projD := ⟨_, rfl⟩
                    obtain ⟨LH, hLH⟩ : ∃ x, x = (runs s0 l).2.map projD := ⟨_, rfl⟩
                    obtain ⟨B, hB⟩ : ∃ x, x = bareD (runs s0 l).2 := ⟨_, rfl⟩
                    rw [← hLG] at hag hlg
                    rw [← hLH] at hlg hlm
                    rw [← hB] at hbr hlb
                    obtain ⟨NG, hNG⟩ : ∃ x, x = LG.length := ⟨_, rfl⟩
                    obtain ⟨NH, hNH⟩ : ∃ x, x = LH.length := ⟨_, rfl⟩
                    obtain ⟨NB, hNB⟩ : ∃ x, x = B.length := ⟨_, rfl⟩
                    rw [← hNG, ← hNH] at hlg
                    rw [← hNH] at hlm
                    rw [← hNB] at hlb
                    have HNG := hid hNG
                    have HNH := hid hNH
                    have HNB := hid hNB
                    have HLG := hid hLG
                    have HLH := hid hLH
                    have HB := hid hB
                    have HBR := hid hbr.symm
                    have HAG := hid hag.symm
                    have HRN := hid hrn
                    have hng3 : NG ≤ 456 := by omega
                    clear hrt hbr hag hLG hLH hB hNG hNH hNB hrn hj hlt
                    subst hlg
                    have hbi := HST.out.get (b := w.heap.size) (C := #[.slice ao j co, .slice aa AL ac, .int .i64 words, .int .i64 locks]) (T := 25) (by simp [HIM.out])
                    have c0_i := Blk.cell hbi 0
                    have f0_i := Blk.free hbi 0
                    have c1_i := Blk.cell hbi 1
                    have f1_i := Blk.free hbi 1
                    have c2_i := Blk.cell hbi 2
                    have f2_i := Blk.free hbi 2
                    have c3_i := Blk.cell hbi 3
                    have f3_i := Blk.free hbi 3
                    have l_i := Blk.lt hbi
                    have hbz := HST.out.get (b := w2.heap.size) (C := #[.int .i64 2, .int .i64 5]) (T := 35) (by simp [HZM.out])
                    have c0_z := Blk.cell hbz 0
                    have f0_z := Blk.free hbz 0
                    have c1_z := Blk.cell hbz 1
                    have f1_z := Blk.free hbz 1
                    have l_z := Blk.lt hbz
                    clear hbi hbz
                    go_wp2_with (first | still_step | (with_reducible first | refine wpStill_nil ?_ | refine Flow.Both.mk ?_ ?_ | exact True.intro) | (with_reducible refine Flow.same_mk rfl rfl rfl ?_; go_simp; done) | (with_reducible exact Flow.same_un rfl rfl rfl))
                    go_at_call 22
                    refine Calls.named fun wc hwc => ?_
                    have hfwc : Fr (fun _ => False) wr wc := by rw [hwc]; (with_reducible repeat' (first | exact Fr.refl _ _ | apply Fr.alloc | apply Fr.drew | apply Fr.drewN | refine Fr.setCell ?_ ?_ _))
                    have hST := Sts.fr HST.out hfwc
                    have HFW := hid hfwc
                    clear HST hwc hfwc
                    have HST := hid hST
                    clear hST
                    clear c0_i f0_i c1_i f1_i c2_i f2_i c3_i f3_i l_i c0_z f0_z c1_z f1_z l_z
                    have hli := legal_is (fun k => k < w.heap.size) (fun k => k < w.heap.size) ao a1 aa ra co cap1 AL ac rc qs words locks 2 5 mem lt wc (HC.out.fr HST.out.fr0 (fun _ _ h => h)) (HM.out.fr HST.out.fr0 (fun _ _ h => h)) HMN.out (by omega) (by have := HML.out; omega) (fun q hq => by have := HLN.out q hq; omega) (by omega) hlk8 (by omega) (by omega) (by rw [← HSZ.out]; exact HFT.out) (by rw [← HLT.out]; omega) (by rw [← HLT.out]; exact (HOA.out wc (fun e he => (HST.out.keep e (by simp [he])).1)).vw.mono (fun _ _ => trivial))
                    rw [← HSZ.out, ← HLG.out, ← HLT.out, ← HQL.out, ← HML.out] at hli
                    refine hli.mono ?_
                    clear hli
                    rintro e w10 ⟨a10, c10, rfl, ho10, hf10⟩
                    obtain ⟨L10, hLa, hLb⟩ := own_row ho10
                    have hST := (Sts.fr HST.out hf10).add (fun e he => ⟨(hLa e he).1, fun hr => by have h1 := HST.out.sr.lt _ hr; have h2 := (hLa e he).2; (try dsimp only at h2); omega⟩)
                    have HO10 := hid hLb
                    clear HST hLa hLb ho10 hf10 HFW
                    have HST := hid hST
                    clear hST
                    rw [← HNG.out]
                    have hbi := HST.out.get (b := w.heap.size) (C := #[.slice ao j co, .slice aa AL ac, .int .i64 words, .int .i64 locks]) (T := 25) (by simp [HIM.out])
                    have c0_i := Blk.cell hbi 0
                    have f0_i := Blk.free hbi 0
                    have c1_i := Blk.cell hbi 1
                    have f1_i := Blk.free hbi 1
                    have c2_i := Blk.cell hbi 2
                    have f2_i := Blk.free hbi 2
                    have c3_i := Blk.cell hbi 3
                    have f3_i := Blk.free hbi 3
                    have l_i := Blk.lt hbi
                    have hbz := HST.out.get (b := w2.heap.size) (C := #[.int .i64 2, .int .i64 5]) (T := 35) (by simp [HZM.out])
                    have c0_z := Blk.cell hbz 0
                    have f0_z := Blk.free hbz 0
                    have c1_z := Blk.cell hbz 1
                    have f1_z := Blk.free hbz 1
                    have l_z := Blk.lt hbz
                    clear hbi hbz
                    go_wp2_with (first | still_step | (with_reducible first | refine wpStill_nil ?_ | refine Flow.Both.mk ?_ ?_ | exact True.intro) | (with_reducible refine Flow.same_mk rfl rfl rfl ?_; go_simp; done) | (with_reducible exact Flow.same_un rfl rfl rfl) | (with_reducible refine Flow.region_flow (id := 31) [0, 0, 3, 7, 15, 31, 31, 127, 255, 31, 31, 1567, 3615, 8191, 16383] 132 14600 [(0, none), (1, none), (2, some []), (3, none), (4, none), (5, none), (6, none), (9, none), (10, none), (11, none), (12, none), (7, some [11, 12]), (8, none), (13, none), (14, none)] mixed ?hB ?_; (case hB => decide +kernel); simp only [Flow.textOf, Flow.q1, Flow.q2, Flow.q3, Flow.q4, Flow.q5, Flow.q6, Flow.q7, Flow.q8, Flow.q9, Flow.wpFl, Flow.SameAll]) | (with_reducible refine Flow.region_flow (id := 34) [0, 0, 2, 6, 15, 31, 63, 127, 255, 255, 255, 255, 4095, 255, 255, 255, 255, 131071, 262143, 524287, 1048575, 2097151, 4194303, 8388607, 4194303, 4194303, 4194303, 4194303, 255852543, 524287999, 4194303, 1077936127, 4282384383, 8589934591, 17179869183, 34359738367, 68719476735, 68719476735, 68719476735, 68719476735, 1099511627775, 68719476735, 4398046511103, 8796093022207, 17592186044415, 35184372088831] 14293920518160 359258957166 [(0, none), (1, none), (2, none), (3, none), (4, some []), (5, none), (6, none), (7, none), (8, none), (9, none), (10, none), (11, none), (13, none), (14, none), (15, none), (16, none), (12, some [13, 15]), (17, some []), (18, some []), (19, some []), (20, none), (21, none), (22, none), (23, none), (24, none), (25, none), (26, none), (27, none), (30, none), (31, none), (28, some [23, 31]), (29, none), (32, none), (33, none), (34, none), (35, none), (36, none), (37, none), (38, none), (39, none), (41, none), (40, some []), (42, some []), (43, some []), (44, none), (45, none)] mixed ?hB ?_; (case hB => decide +kernel); simp only [Flow.textOf, Flow.q1, Flow.q2, Flow.q3, Flow.q4, Flow.q5, Flow.q6, Flow.q7, Flow.q8, Flow.q9, Flow.wpFl, Flow.SameAll]) | (refine Flow.region_still mixed ?hB ?_; (case hB => decide +kernel)))
                    go_at_call 25
                    refine Calls.named fun wc hwc => ?_
                    have hfwc : Fr (fun _ => False) w10 wc := by rw [hwc]; (with_reducible repeat' (first | exact Fr.refl _ _ | apply Fr.alloc | apply Fr.drew | apply Fr.drewN | refine Fr.setCell ?_ ?_ _))
                    have hST := Sts.fr HST.out hfwc
                    have HFW := hid hfwc
                    clear HST hwc hfwc
                    have HST := hid hST
                    clear hST
                    clear c0_i f0_i c1_i f1_i c2_i f2_i c3_i f3_i l_i c0_z f0_z c1_z f1_z l_z
                    refine (rest_is SB _ s2 j wc HST.out.sr HR1.out (by omega)).mono ?_
                    rw [HRN.out]
                    rintro e w11 ⟨a11, c11, rfl, ho11, hf11⟩
                    clear ho11
                    have hST := HST.out.fr hf11
                    clear HST hf11
                    have HST := hid hST
                    clear hST
                    have hbi := HST.out.get (b := w.heap.size) (C := #[.slice ao j co, .slice aa AL ac, .int .i64 words, .int .i64 locks]) (T := 25) (by simp [HIM.out])
                    have c0_i := Blk.cell hbi 0
                    have f0_i := Blk.free hbi 0
                    have c1_i := Blk.cell hbi 1
                    have f1_i := Blk.free hbi 1
                    have c2_i := Blk.cell hbi 2
                    have f2_i := Blk.free hbi 2
                    have c3_i := Blk.cell hbi 3
                    have f3_i := Blk.free hbi 3
                    have l_i := Blk.lt hbi
                    have hbz := HST.out.get (b := w2.heap.size) (C := #[.int .i64 2, .int .i64 5]) (T := 35) (by simp [HZM.out])
                    have c0_z := Blk.cell hbz 0
                    have f0_z := Blk.free hbz 0
                    have c1_z := Blk.cell hbz 1
                    have f1_z := Blk.free hbz 1
                    have l_z := Blk.lt hbz
                    clear hbi hbz
                    go_wp2_with (first | still_step | (with_reducible first | refine wpStill_nil ?_ | refine Flow.Both.mk ?_ ?_ | exact True.intro) | (with_reducible refine Flow.same_mk rfl rfl rfl ?_; go_simp; done) | (with_reducible exact Flow.same_un rfl rfl rfl))
                    go_at_call 21
                    refine Calls.named fun wc hwc => ?_
                    have hfwc : Fr (fun _ => False) w11 wc := by rw [hwc]; (with_reducible repeat' (first | exact Fr.refl _ _ | apply Fr.alloc | apply Fr.drew | apply Fr.drewN | refine Fr.setCell ?_ ?_ _))
                    have hST := Sts.fr HST.out hfwc
                    have HFW := hid hfwc
                    clear HST hwc hfwc
                    have HST := hid hST
                    clear hST
                    clear c0_i f0_i c1_i f1_i c2_i f2_i c3_i f3_i l_i c0_z f0_z c1_z f1_z l_z
                    have hli := list_is (fun k => k < w.heap.size) (fun k => k < w.heap.size) ao a1 aa ra co cap1 AL ac rc qs words locks 2 5 mem lt wc (HC.out.fr HST.out.fr0 (fun _ _ h => h)) (HM.out.fr HST.out.fr0 (fun _ _ h => h)) HMN.out (by omega) (by have := HML.out; omega) (fun q hq => by have := HLN.out q hq; omega) (by omega) hlk8 (by omega) (by omega) (by rw [← HSZ.out]; exact HFT.out) (by rw [← HLT.out]; omega) (by rw [← HLT.out]; exact ((HOA.out wc (fun e he => (HST.out.keep e (by simp [he])).1)).vw.mono (fun _ _ => trivial)))
                    rw [← HSZ.out, ← HBR.out, ← HLT.out, ← HQL.out, ← HML.out] at hli
                    refine hli.mono ?_
                    clear hli
                    rintro e w12 ⟨a12, c12, rfl, ho12, hf12⟩
                    obtain ⟨L12, hLa, hLb⟩ := own_row ho12
                    have hST := (Sts.fr HST.out hf12).add (fun e he => ⟨(hLa e he).1, fun hr => by have h1 := HST.out.sr.lt _ hr; have h2 := (hLa e he).2; (try dsimp only at h2); omega⟩)
                    have HO12 := hid hLb
                    clear HST hLa hLb ho12 hf12 HFW
                    have HST := hid hST
                    clear hST
                    rw [← HNB.out]
                    have hbi := HST.out.get (b := w.heap.size) (C := #[.slice ao j co, .slice aa AL ac, .int .i64 words, .int .i64 locks]) (T := 25) (by simp [HIM.out])
                    have c0_i := Blk.cell hbi 0
                    have f0_i := Blk.free hbi 0
                    have c1_i := Blk.cell hbi 1
                    have f1_i := Blk.free hbi 1
                    have c2_i := Blk.cell hbi 2
                    have f2_i := Blk.free hbi 2
                    have c3_i := Blk.cell hbi 3
                    have f3_i := Blk.free hbi 3
                    have l_i := Blk.lt hbi
                    have hbz := HST.out.get (b := w2.heap.size) (C := #[.int .i64 2, .int .i64 5]) (T := 35) (by simp [HZM.out])
                    have c0_z := Blk.cell hbz 0
                    have f0_z := Blk.free hbz 0
                    have c1_z := Blk.cell hbz 1
                    have f1_z := Blk.free hbz 1
                    have l_z := Blk.lt hbz
                    clear hbi hbz
                    go_wp2_with (first | still_step | (with_reducible first | refine wpStill_nil ?_ | refine Flow.Both.mk ?_ ?_ | exact True.intro) | (with_reducible refine Flow.same_mk rfl rfl rfl ?_; go_simp; done) | (with_reducible exact Flow.same_un rfl rfl rfl))
                    go_at_call 21
                    refine Calls.named fun wc hwc => ?_
                    have hfwc : Fr (fun _ => False) w12 wc := by rw [hwc]; (with_reducible repeat' (first | exact Fr.refl _ _ | apply Fr.alloc | apply Fr.drew | apply Fr.drewN | refine Fr.setCell ?_ ?_ _))
                    have hST := Sts.fr HST.out hfwc
                    have HFW := hid hfwc
                    clear HST hwc hfwc
                    have HST := hid hST
                    clear hST
                    clear c0_i f0_i c1_i f1_i c2_i f2_i c3_i f3_i l_i c0_z f0_z c1_z f1_z l_z
                    have hli := list_is (fun k => k < w.heap.size) (fun k => k < w.heap.size) ao a1 aa a2 co cap1 AL ac cap2 qs words locks 2 5 mem l wc (HC.out.fr HST.out.fr0 (fun _ _ h => h)) (HM.out.fr HST.out.fr0 (fun _ _ h => h)) HMN.out (by omega) (by have := HML.out; omega) (fun q hq => by have := HLN.out q hq; omega) (by omega) hlk8 (by omega) (by omega) (by rw [← HSZ.out]; exact HFT.out) (by rw [← HLL.out]; omega) (by rw [← HLL.out]; exact ((HV.out.fr HST.out.fr0 (fun _ _ h => h)).mono (fun _ _ => trivial)))
                    rw [← HSZ.out, ← HB.out, ← HLL.out, ← HQL.out, ← HML.out] at hli
                    refine hli.mono ?_
                    clear hli
                    rintro e w13 ⟨a13, c13, rfl, ho13, hf13⟩
                    obtain ⟨L13, hLa, hLb⟩ := own_row ho13
                    have hST := (Sts.fr HST.out hf13).add (fun e he => ⟨(hLa e he).1, fun hr => by have h1 := HST.out.sr.lt _ hr; have h2 := (hLa e he).2; (try dsimp only at h2); omega⟩)
                    have HO13 := hid hLb
                    clear HST hLa hLb ho13 hf13 HFW
                    have HST := hid hST
                    clear hST
                    rw [← HNB.out]
                    have hbi := HST.out.get (b := w.heap.size) (C := #[.slice ao j co, .slice aa AL ac, .int .i64 words, .int .i64 locks]) (T := 25) (by simp [HIM.out])
                    have c0_i := Blk.cell hbi 0
                    have f0_i := Blk.free hbi 0
                    have c1_i := Blk.cell hbi 1
                    have f1_i := Blk.free hbi 1
                    have c2_i := Blk.cell hbi 2
                    have f2_i := Blk.free hbi 2
                    have c3_i := Blk.cell hbi 3
                    have f3_i := Blk.free hbi 3
                    have l_i := Blk.lt hbi
                    have hbz := HST.out.get (b := w2.heap.size) (C := #[.int .i64 2, .int .i64 5]) (T := 35) (by simp [HZM.out])
                    have c0_z := Blk.cell hbz 0
                    have f0_z := Blk.free hbz 0
                    have c1_z := Blk.cell hbz 1
                    have f1_z := Blk.free hbz 1
                    have l_z := Blk.lt hbz
                    clear hbi hbz
                    go_wp2_with (first | still_step | (with_reducible first | refine wpStill_nil ?_ | refine Flow.Both.mk ?_ ?_ | exact True.intro) | (with_reducible refine Flow.same_mk rfl rfl rfl ?_; go_simp; done) | (with_reducible exact Flow.same_un rfl rfl rfl))
                    go_at_call 24
                    refine Calls.named fun wc hwc => ?_
                    have hfwc : Fr (fun _ => False) w13 wc := by rw [hwc]; (with_reducible repeat' (first | exact Fr.refl _ _ | apply Fr.alloc | apply Fr.drew | apply Fr.drewN | refine Fr.setCell ?_ ?_ _))
                    have hST := Sts.fr HST.out hfwc
                    have HFW := hid hfwc
                    clear HST hwc hfwc
                    have HST := hid hST
                    clear hST
                    clear c0_i f0_i c1_i f1_i c2_i f2_i c3_i f3_i l_i c0_z f0_z c1_z f1_z l_z
                    rw [HNB.out]
                    refine (plain30_is a13 c13 B wc ((HO13.out wc (fun e he => (HST.out.keep e (by simp [he])).1)).vw.mono (fun _ _ => trivial)) (by have := HNB.out; omega)).mono ?_
                    rintro e w14 ⟨a14, c14, rfl, ho14, hf14⟩
                    rw [← HNB.out]
                    obtain ⟨L14, hLa, hLb⟩ := own_row ho14
                    have hST := (Sts.fr HST.out hf14).add (fun e he => ⟨(hLa e he).1, fun hr => by have h1 := HST.out.sr.lt _ hr; have h2 := (hLa e he).2; (try dsimp only at h2); omega⟩)
                    have HO14 := hid hLb
                    clear HST hLa hLb ho14 hf14 HFW
                    have HST := hid hST
                    clear hST
                    have hbi := HST.out.get (b := w.heap.size) (C := #[.slice ao j co, .slice aa AL ac, .int .i64 words, .int .i64 locks]) (T := 25) (by simp [HIM.out])
                    have c0_i := Blk.cell hbi 0
                    have f0_i := Blk.free hbi 0
                    have c1_i := Blk.cell hbi 1
                    have f1_i := Blk.free hbi 1
                    have c2_i := Blk.cell hbi 2
                    have f2_i := Blk.free hbi 2
                    have c3_i := Blk.cell hbi 3
                    have f3_i := Blk.free hbi 3
                    have l_i := Blk.lt hbi
                    have hbz := HST.out.get (b := w2.heap.size) (C := #[.int .i64 2, .int .i64 5]) (T := 35) (by simp [HZM.out])
                    have c0_z := Blk.cell hbz 0
                    have f0_z := Blk.free hbz 0
                    have c1_z := Blk.cell hbz 1
                    have f1_z := Blk.free hbz 1
                    have l_z := Blk.lt hbz
                    clear hbi hbz
                    go_wp2_with (first | still_step | (with_reducible first | refine wpStill_nil ?_ | refine Flow.Both.mk ?_ ?_ | exact True.intro) | (with_reducible refine Flow.same_mk rfl rfl rfl ?_; go_simp; done) | (with_reducible exact Flow.same_un rfl rfl rfl))
                    go_at_call 23
                    refine Calls.named fun wc hwc => ?_
                    have hfwc : Fr (fun _ => False) w14 wc := by rw [hwc]; (with_reducible repeat' (first | exact Fr.refl _ _ | apply Fr.alloc | apply Fr.drew | apply Fr.drewN | refine Fr.setCell ?_ ?_ _))
                    have hST := Sts.fr HST.out hfwc
                    have HFW := hid hfwc
                    clear HST hwc hfwc
                    have HST := hid hST
                    clear hST
                    clear c0_i f0_i c1_i f1_i c2_i f2_i c3_i f3_i l_i c0_z f0_z c1_z f1_z l_z
                    rw [HNB.out]
                    refine (same30_is a12 a14 c12 c14 B B wc ((HO12.out wc (fun e he => (HST.out.keep e (by simp [he])).1)).vw.mono (fun _ _ => trivial)) ((HO14.out wc (fun e he => (HST.out.keep e (by simp [he])).1)).vw.mono (fun _ _ => trivial)) (by have := HNB.out; omega)).mono ?_
                    rintro e w15 ⟨rfl, hf15⟩
                    rw [decide_eq_true (rfl : B = B), ← HNB.out]
                    clear HFW
                    have hST := HST.out.fr hf15
                    clear HST hf15
                    have HST := hid hST
                    clear hST
                    have hbi := HST.out.get (b := w.heap.size) (C := #[.slice ao j co, .slice aa AL ac, .int .i64 words, .int .i64 locks]) (T := 25) (by simp [HIM.out])
                    have c0_i := Blk.cell hbi 0
                    have f0_i := Blk.free hbi 0
                    have c1_i := Blk.cell hbi 1
                    have f1_i := Blk.free hbi 1
                    have c2_i := Blk.cell hbi 2
                    have f2_i := Blk.free hbi 2
                    have c3_i := Blk.cell hbi 3
                    have f3_i := Blk.free hbi 3
                    have l_i := Blk.lt hbi
                    have hbz := HST.out.get (b := w2.heap.size) (C := #[.int .i64 2, .int .i64 5]) (T := 35) (by simp [HZM.out])
                    have c0_z := Blk.cell hbz 0
                    have f0_z := Blk.free hbz 0
                    have c1_z := Blk.cell hbz 1
                    have f1_z := Blk.free hbz 1
                    have l_z := Blk.lt hbz
                    clear hbi hbz
                    go_wp2_with (first | still_step | (with_reducible first | refine wpStill_nil ?_ | refine Flow.Both.mk ?_ ?_ | exact True.intro) | (with_reducible refine Flow.same_mk rfl rfl rfl ?_; go_simp; done) | (with_reducible exact Flow.same_un rfl rfl rfl))
                    go_at_call 22
                    refine Calls.named fun wc hwc => ?_
                    have hfwc : Fr (fun _ => False) w15 wc := by rw [hwc]; (with_reducible repeat' (first | exact Fr.refl _ _ | apply Fr.alloc | apply Fr.drew | apply Fr.drewN | refine Fr.setCell ?_ ?_ _))
                    have hST := Sts.fr HST.out hfwc
                    have HFW := hid hfwc
                    clear HST hwc hfwc
                    have HST := hid hST
                    clear hST
                    clear c0_i f0_i c1_i f1_i c2_i f2_i c3_i f3_i l_i c0_z f0_z c1_z f1_z l_z
                    have hli := legal_is (fun k => k < w.heap.size) (fun k => k < w.heap.size) ao a1 aa a2 co cap1 AL ac cap2 qs words locks 2 5 mem l wc (HC.out.fr HST.out.fr0 (fun _ _ h => h)) (HM.out.fr HST.out.fr0 (fun _ _ h => h)) HMN.out (by omega) (by have := HML.out; omega) (fun q hq => by have := HLN.out q hq; omega) (by omega) hlk8 (by omega) (by omega) (by rw [← HSZ.out]; exact HFT.out) (by rw [← HLL.out]; omega) (by rw [← HLL.out]; exact ((HV.out.fr HST.out.fr0 (fun _ _ h => h)).mono (fun _ _ => trivial)))
                    rw [← HSZ.out, ← HLH.out, ← HLL.out, ← HQL.out, ← HML.out] at hli
                    refine hli.mono ?_
                    clear hli
                    rintro e w16 ⟨a16, c16, rfl, ho16, hf16⟩
                    obtain ⟨L16, hLa, hLb⟩ := own_row ho16
                    have hST := (Sts.fr HST.out hf16).add (fun e he => ⟨(hLa e he).1, fun hr => by have h1 := HST.out.sr.lt _ hr; have h2 := (hLa e he).2; (try dsimp only at h2); omega⟩)
                    have HO16 := hid hLb
                    clear HST hLa hLb ho16 hf16 HFW
                    have HST := hid hST
                    clear hST
                    rw [← HNH.out]
                    have hwr : IntKind.i64.wrap (((NH : Nat) : Int) + ((k : Nat) : Int)) = (NH : Int) + (k : Int) := by rw [IntWalk.i64_left, IntWalk.wrap64_in _ (by omega)]
                    have hbi := HST.out.get (b := w.heap.size) (C := #[.slice ao j co, .slice aa AL ac, .int .i64 words, .int .i64 locks]) (T := 25) (by simp [HIM.out])
                    have c0_i := Blk.cell hbi 0
                    have f0_i := Blk.free hbi 0
                    have c1_i := Blk.cell hbi 1
                    have f1_i := Blk.free hbi 1
                    have c2_i := Blk.cell hbi 2
                    have f2_i := Blk.free hbi 2
                    have c3_i := Blk.cell hbi 3
                    have f3_i := Blk.free hbi 3
                    have l_i := Blk.lt hbi
                    have hbz := HST.out.get (b := w2.heap.size) (C := #[.int .i64 2, .int .i64 5]) (T := 35) (by simp [HZM.out])
                    have c0_z := Blk.cell hbz 0
                    have f0_z := Blk.free hbz 0
                    have c1_z := Blk.cell hbz 1
                    have f1_z := Blk.free hbz 1
                    have l_z := Blk.lt hbz
                    clear hbi hbz
                    go_wp2_with (first | still_step | (with_reducible first | refine wpStill_nil ?_ | refine Flow.Both.mk ?_ ?_ | exact True.intro) | (with_reducible refine Flow.same_mk rfl rfl rfl ?_; go_simp; done) | (with_reducible exact Flow.same_un rfl rfl rfl))
                    clear hwr
                    have HV10 := hid (show ∀ w', (∀ e ∈ L10, Blk w' e.1 e.2.1 e.2.2) → Vw w' 2 (fun _ => True) a10 (NH + k) (dosC LG) from fun w' h => by
                      have := (HO10.out w' h).vw
                      rw [← HNG.out] at this
                      exact this.mono (fun _ _ => trivial))
                    go_at_call 22
                    refine Calls.named fun wc hwc => ?_
                    have hfwc : Fr (fun _ => False) w16 wc := by rw [hwc]; (with_reducible repeat' (first | exact Fr.refl _ _ | apply Fr.alloc | apply Fr.drew | apply Fr.drewN | refine Fr.setCell ?_ ?_ _))
                    have hST := Sts.fr HST.out hfwc
                    have HFW := hid hfwc
                    clear HST hwc hfwc
                    have HST := hid hST
                    clear hST
                    clear c0_i f0_i c1_i f1_i c2_i f2_i c3_i f3_i l_i c0_z f0_z c1_z f1_z l_z
                    have hli := legal_is (fun k => k < w.heap.size) (fun k => k < w.heap.size) ao a1 aa a10 co cap1 AL ac c10 qs words locks 2 5 mem LG wc (HC.out.fr HST.out.fr0 (fun _ _ h => h)) (HM.out.fr HST.out.fr0 (fun _ _ h => h)) HMN.out (by omega) (by have := HML.out; omega) (fun q hq => by have := HLN.out q hq; omega) (by omega) hlk8 (by omega) (by omega) (by rw [← HSZ.out]; exact HFT.out) (by rw [← HNG.out]; omega) (by rw [← HNG.out]; exact (HV10.out wc (fun e he => (HST.out.keep e (by simp [he])).1)))
                    rw [← HSZ.out, ← HAG.out, ← HNG.out, ← HQL.out, ← HML.out] at hli
                    refine hli.mono ?_
                    clear hli
                    rintro e w17 ⟨a17, c17, rfl, ho17, hf17⟩
                    obtain ⟨L17, hLa, hLb⟩ := own_row ho17
                    have hST := (Sts.fr HST.out hf17).add (fun e he => ⟨(hLa e he).1, fun hr => by have h1 := HST.out.sr.lt _ hr; have h2 := (hLa e he).2; (try dsimp only at h2); omega⟩)
                    have HO17 := hid hLb
                    clear HST hLa hLb ho17 hf17 HFW
                    have HST := hid hST
                    clear hST
                    have HO17x := hid (show ∀ w', (∀ e ∈ L17, Blk w' e.1 e.2.1 e.2.2) → OwnAt w' 41 2 _ a17 LG.length c17 (dosC LG) from fun w' h => by
                      have := HO17.out w' h
                      rw [HNG.out] at this
                      exact this)
                    clear HO17
                    have HO17 := HO17x
                    clear HO17x
                    have hbi := HST.out.get (b := w.heap.size) (C := #[.slice ao j co, .slice aa AL ac, .int .i64 words, .int .i64 locks]) (T := 25) (by simp [HIM.out])
                    have c0_i := Blk.cell hbi 0
                    have f0_i := Blk.free hbi 0
                    have c1_i := Blk.cell hbi 1
                    have f1_i := Blk.free hbi 1
                    have c2_i := Blk.cell hbi 2
                    have f2_i := Blk.free hbi 2
                    have c3_i := Blk.cell hbi 3
                    have f3_i := Blk.free hbi 3
                    have l_i := Blk.lt hbi
                    have hbz := HST.out.get (b := w2.heap.size) (C := #[.int .i64 2, .int .i64 5]) (T := 35) (by simp [HZM.out])
                    have c0_z := Blk.cell hbz 0
                    have f0_z := Blk.free hbz 0
                    have c1_z := Blk.cell hbz 1
                    have f1_z := Blk.free hbz 1
                    have l_z := Blk.lt hbz
                    clear hbi hbz
                    go_wp2_with (first | still_step | (with_reducible first | refine wpStill_nil ?_ | refine Flow.Both.mk ?_ ?_ | exact True.intro) | (with_reducible refine Flow.same_mk rfl rfl rfl ?_; go_simp; done) | (with_reducible exact Flow.same_un rfl rfl rfl))
                    go_at_call 24
                    refine Calls.named fun wc hwc => ?_
                    have hfwc : Fr (fun _ => False) w17 wc := by rw [hwc]; (with_reducible repeat' (first | exact Fr.refl _ _ | apply Fr.alloc | apply Fr.drew | apply Fr.drewN | refine Fr.setCell ?_ ?_ _))
                    have hST := Sts.fr HST.out hfwc
                    have HFW := hid hfwc
                    clear HST hwc hfwc
                    have HST := hid hST
                    clear hST
                    clear c0_i f0_i c1_i f1_i c2_i f2_i c3_i f3_i l_i c0_z f0_z c1_z f1_z l_z
                    rw [HNG.out]
                    refine (plain30_is a10 c10 LG wc ((HO10.out wc (fun e he => (HST.out.keep e (by simp [he])).1)).vw.mono (fun _ _ => trivial)) (by have := HNG.out; omega)).mono ?_
                    rintro e w18 ⟨a18, c18, rfl, ho18, hf18⟩
                    rw [← HNG.out]
                    obtain ⟨L18, hLa, hLb⟩ := own_row ho18
                    have hST := (Sts.fr HST.out hf18).add (fun e he => ⟨(hLa e he).1, fun hr => by have h1 := HST.out.sr.lt _ hr; have h2 := (hLa e he).2; (try dsimp only at h2); omega⟩)
                    have HO18 := hid hLb
                    clear HST hLa hLb ho18 hf18 HFW
                    have HST := hid hST
                    clear hST
                    have hbi := HST.out.get (b := w.heap.size) (C := #[.slice ao j co, .slice aa AL ac, .int .i64 words, .int .i64 locks]) (T := 25) (by simp [HIM.out])
                    have c0_i := Blk.cell hbi 0
                    have f0_i := Blk.free hbi 0
                    have c1_i := Blk.cell hbi 1
                    have f1_i := Blk.free hbi 1
                    have c2_i := Blk.cell hbi 2
                    have f2_i := Blk.free hbi 2
                    have c3_i := Blk.cell hbi 3
                    have f3_i := Blk.free hbi 3
                    have l_i := Blk.lt hbi
                    have hbz := HST.out.get (b := w2.heap.size) (C := #[.int .i64 2, .int .i64 5]) (T := 35) (by simp [HZM.out])
                    have c0_z := Blk.cell hbz 0
                    have f0_z := Blk.free hbz 0
                    have c1_z := Blk.cell hbz 1
                    have f1_z := Blk.free hbz 1
                    have l_z := Blk.lt hbz
                    clear hbi hbz
                    go_wp2_with (first | still_step | (with_reducible first | refine wpStill_nil ?_ | refine Flow.Both.mk ?_ ?_ | exact True.intro) | (with_reducible refine Flow.same_mk rfl rfl rfl ?_; go_simp; done) | (with_reducible exact Flow.same_un rfl rfl rfl))
                    go_at_call 23
                    refine Calls.named fun wc hwc => ?_
                    have hfwc : Fr (fun _ => False) w18 wc := by rw [hwc]; (with_reducible repeat' (first | exact Fr.refl _ _ | apply Fr.alloc | apply Fr.drew | apply Fr.drewN | refine Fr.setCell ?_ ?_ _))
                    have hST := Sts.fr HST.out hfwc
                    have HFW := hid hfwc
                    clear HST hwc hfwc
                    have HST := hid hST
                    clear hST
                    clear c0_i f0_i c1_i f1_i c2_i f2_i c3_i f3_i l_i c0_z f0_z c1_z f1_z l_z
                    rw [HNG.out]
                    refine (same30_is a17 a18 c17 c18 LG LG wc ((HO17.out wc (fun e he => (HST.out.keep e (by simp [he])).1)).vw.mono (fun _ _ => trivial)) ((HO18.out wc (fun e he => (HST.out.keep e (by simp [he])).1)).vw.mono (fun _ _ => trivial)) (by have := HNG.out; omega)).mono ?_
                    rintro e w19 ⟨rfl, hf19⟩
                    rw [decide_eq_true (rfl : LG = LG), ← HNG.out]
                    clear HFW
                    have hST := HST.out.fr hf19
                    clear HST hf19
                    have HST := hid hST
                    clear hST
                    have hbi := HST.out.get (b := w.heap.size) (C := #[.slice ao j co, .slice aa AL ac, .int .i64 words, .int .i64 locks]) (T := 25) (by simp [HIM.out])
                    have c0_i := Blk.cell hbi 0
                    have f0_i := Blk.free hbi 0
                    have c1_i := Blk.cell hbi 1
                    have f1_i := Blk.free hbi 1
                    have c2_i := Blk.cell hbi 2
                    have f2_i := Blk.free hbi 2
                    have c3_i := Blk.cell hbi 3
                    have f3_i := Blk.free hbi 3
                    have l_i := Blk.lt hbi
                    have hbz := HST.out.get (b := w2.heap.size) (C := #[.int .i64 2, .int .i64 5]) (T := 35) (by simp [HZM.out])
                    have c0_z := Blk.cell hbz 0
                    have f0_z := Blk.free hbz 0
                    have c1_z := Blk.cell hbz 1
                    have f1_z := Blk.free hbz 1
                    have l_z := Blk.lt hbz
                    clear hbi hbz
                    go_wp2_with (first | still_step | (with_reducible first | refine wpStill_nil ?_ | refine Flow.Both.mk ?_ ?_ | exact True.intro) | (with_reducible refine Flow.same_mk rfl rfl rfl ?_; go_simp; done) | (with_reducible exact Flow.same_un rfl rfl rfl))
                    go_ret
                    exact ⟨rfl, (Sts.fr HST.out (show Fr (fun _ => False) w19 _ by (with_reducible repeat' (first | exact Fr.refl _ _ | apply Fr.alloc | apply Fr.drew | apply Fr.drewN | refine Fr.setCell ?_ ?_ _)))).fr0⟩
end Go.Proofs.Ytbfeopakmjcapaa.Sp
