/-
  EraseJoins: what is left of a script is left of it with more behind.
-/
import Derived.Test.YtbfeopakmjcapaaAwake30
import Derived.Test.YtbfeopakmjcapaaErP
import Derived.Test.YtbfeopakmjcapaaSmall30
set_option linter.unusedVariables false
namespace Go.Proofs.Ytbfeopakmjcapaa.Sp
open Go.RowKit Go.Proofs.Ytbfeopakmjcapaa.Seq Go.Proofs.Ytbfeopakmjcapaa.Tso
attribute [local irreducible] wpStill wpList Calls CallsIn

theorem dosC_one (l : List (Int × Int)) : ∀ u ∈ dosC l, u.oneCell' = true := by
  intro u hu
  obtain ⟨a, _, h⟩ := List.mem_flatMap.1 hu
  simp at h
  rcases h with rfl | rfl <;> rfl

set_option linter.unusedSimpArgs false in
set_option maxHeartbeats 40000000 in
set_option maxRecDepth 100000 in
theorem joins_walk (ao aa a1 a2 : Option Addr) (co ac cap1 cap2 : Nat) (qs : List ((Option Addr × Nat) × List Ins)) (al : List (Int × Int × Bool)) (words locks : Int) (la lm : List (Int × Int)) (w : World)
    (hc : Codes w (fun k => k < w.heap.size) ao qs) (ha : Vw w 3 (fun k => k < w.heap.size) aa al.length (areaC al)) (hal : al.length ≤ 9223372036854775807) (hql : qs.length ≤ 9223372036854775807) (hi : ∀ q ∈ qs, q.2.length ≤ 9223372036854775807)
    (hv : Vw w 2 (fun k => k < w.heap.size) a1 la.length (dosC la)) (hll : la.length ≤ 9223372036854775807) (hu : Vw w 2 (fun k => k < w.heap.size) a2 lm.length (dosC lm)) (hlm : lm.length ≤ 9223372036854775807) :
    Calls Try.prog 7 #[.agg #[.slice ao qs.length co, .slice aa al.length ac, .int .i64 words, .int .i64 locks], .slice a1 la.length cap1, .slice a2 lm.length cap2] w fun e w' => e = .returned (.bool true) ∧ Fr (fun _ => False) w w' := by
  obtain ⟨i0, hi0, hz0, hz1, hz2⟩ := info_parts infoDO
  obtain ⟨LA, hLA⟩ : ∃ LA, LA = la.length := ⟨_, rfl⟩
  have HLA := hid hLA
  rw [← hLA] at hv hll ⊢
  obtain ⟨LM, hLM⟩ : ∃ LM, LM = lm.length := ⟨_, rfl⟩
  have HLM := hid hLM
  rw [← hLM] at hu hlm ⊢
  have HV := hid hv
  have HU := hid hu
  clear hv hu hLA hLM
  have HC := hid hc
  have HA := hid ha
  have HI := hid hi
  have hqal := hid (And.intro hql hal)
  clear hc ha hi hql hal
  obtain ⟨QL, hQL⟩ : ∃ QL, QL = qs.length := ⟨_, rfl⟩
  have HQL := hid hQL
  rw [← hQL]
  obtain ⟨AL, hAL⟩ : ∃ AL, AL = al.length := ⟨_, rfl⟩
  have HAL := hid hAL
  rw [← hAL]
  clear hQL hAL
  have HX := hid (Blk.new w #[.slice ao QL co, .slice aa AL ac, .int .i64 words, .int .i64 locks] 25)
  go_enter Try.func7, Try.ntmps7
  go_wp2_with (first | fail | still_step | (with_reducible refine wpStill_nil ?_) | (with_reducible refine Flow.Both.mk ?_ ?_) | (with_reducible exact True.intro) | (with_reducible refine Flow.same_mk rfl rfl rfl ?_; go_simp; done) | (with_reducible exact Flow.same_un rfl rfl rfl) | (refine Flow.region_still mixed ?hB ?_; (case hB => decide +kernel)))
  go_at_call 19
  refine Calls.named fun wc hwc => ?_
  have hfc : Fr (fun _ => False) w wc := by rw [hwc]; (repeat' (first | with_reducible exact Fr.refl _ _ | with_reducible apply Fr.alloc | with_reducible apply Fr.drew | with_reducible apply Fr.drewN | (with_reducible refine Fr.setCell ?_ ?_ _)))
  have hxc : Blk wc w.heap.size #[.slice ao QL co, .slice aa AL ac, .int .i64 words, .int .i64 locks] 25 := by rw [hwc]; (repeat (first | exact HX.out | with_reducible apply Blk.drew | with_reducible apply Blk.alloc))
  refine (awake30_true _).mono ?_
  rintro e w1 ⟨rfl, hf1⟩
  have HF1 := hid (hfc.trans hf1 (fun _ _ h => h))
  have hx1 := hxc.fr hf1 (fun h => h)
  have c0_i := Blk.cell hx1 0
  have f0_i := Blk.free hx1 0
  have c1_i := Blk.cell hx1 1
  have f1_i := Blk.free hx1 1
  have c2_i := Blk.cell hx1 2
  have f2_i := Blk.free hx1 2
  have c3_i := Blk.cell hx1 3
  have f3_i := Blk.free hx1 3
  have l_i := Blk.lt hx1
  have HX1 := hid hx1
  have HC1 := hid (HC.out.fr HF1.out (fun _ _ h => h))
  have HA1 := hid (HA.out.fr HF1.out (fun _ _ h => h))
  clear hf1 HX hx1 hwc hfc hxc
  go_wp2_with (first | fail | still_step | (with_reducible refine wpStill_nil ?_) | (with_reducible refine Flow.Both.mk ?_ ?_) | (with_reducible exact True.intro) | (with_reducible refine Flow.same_mk rfl rfl rfl ?_; go_simp; done) | (with_reducible exact Flow.same_un rfl rfl rfl) | (refine Flow.region_still mixed ?hB ?_; (case hB => decide +kernel)))
  go_at_call 20
  rw [HQL.out, HAL.out]
  refine (small30_is _ _ ao aa co ac qs al words locks w1 HC1.out HA1.out hqal.out.2 hqal.out.1 HI.out).mono ?_
  rintro e w2 ⟨few, rfl, hfew, hf2⟩
  have HFEW := hid hfew
  have HF2 := hid (HF1.out.trans hf2 (fun _ _ h => h))
  have HX2 := hid (HX1.out.fr hf2 (fun h => h))
  clear c0_i f0_i c1_i f1_i c2_i f2_i c3_i f3_i l_i
  clear hf2 hfew HX1 HF1 HC1 HA1
  cases few with
  | false =>
    go_wp2_with (first | fail | still_step | (with_reducible refine wpStill_nil ?_) | (with_reducible refine Flow.Both.mk ?_ ?_) | (with_reducible exact True.intro) | (with_reducible refine Flow.same_mk rfl rfl rfl ?_; go_simp; done) | (with_reducible exact Flow.same_un rfl rfl rfl) | (refine Flow.region_still mixed ?hB ?_; (case hB => decide +kernel)))
    go_ret
    exact ⟨rfl, HF2.out⟩
  | true =>
    obtain ⟨hg, hwd, hln⟩ := HFEW.out rfl
    have hql4 : qs.length ≤ 4 := hg.1
    by_cases hl6 : 60 < LA
    · go_wp2_with (first | fail | still_step | (with_reducible refine wpStill_nil ?_) | (with_reducible refine Flow.Both.mk ?_ ?_) | (with_reducible exact True.intro) | (with_reducible refine Flow.same_mk rfl rfl rfl ?_; go_simp; done) | (with_reducible exact Flow.same_un rfl rfl rfl) | (refine Flow.region_still mixed ?hB ?_; (case hB => decide +kernel)))
      go_ret
      exact ⟨rfl, HF2.out⟩
    by_cases hl7 : 60 < LM
    · go_wp2_with (first | fail | still_step | (with_reducible refine wpStill_nil ?_) | (with_reducible refine Flow.Both.mk ?_ ?_) | (with_reducible exact True.intro) | (with_reducible refine Flow.same_mk rfl rfl rfl ?_; go_simp; done) | (with_reducible exact Flow.same_un rfl rfl rfl) | (refine Flow.region_still mixed ?hB ?_; (case hB => decide +kernel)))
      go_ret
      exact ⟨rfl, HF2.out⟩
    go_wp2_with (first | (at_builtin; refine wpList_append_Own _ rfl (.tmp 32) (.tmp 33) 27 rfl 41 i0 (.agg #[.int .i64 0, .int .i64 0]) 2 16 Try.underlying27 hi0 hz0 hz1 hz2 rfl (by decide) (fun _ => False) (fun k => k < w.heap.size) none 0 0 [] rfl ?own a1 LA cap1 (dosC la) rfl ?vw ?one ?b1 ?b2 ?grow) | still_step | (with_reducible refine wpStill_nil ?_) | (with_reducible refine Flow.Both.mk ?_ ?_) | (with_reducible exact True.intro) | (with_reducible refine Flow.same_mk rfl rfl rfl ?_; go_simp; done) | (with_reducible exact Flow.same_un rfl rfl rfl) | (refine Flow.region_still mixed ?hB ?_; (case hB => decide +kernel)))
    case own => exact OwnAt.nil _ _ _ _ _
    case vw => exact HV.out.fr (HF2.out.trans (show Fr (fun _ => False) w2 _ by (repeat' (first | with_reducible exact Fr.refl _ _ | with_reducible apply Fr.alloc | with_reducible apply Fr.drew | with_reducible apply Fr.drewN | (with_reducible refine Fr.setCell ?_ ?_ _)))) (fun _ _ h => h)) (fun _ _ h => h)
    case one => exact dosC_one _
    case b1 => unfold maxLen; omega
    case b2 => omega
    case grow =>
    intro ao3 cap3 w3 ho3 hf3
    (try simp only [Nat.zero_add, List.nil_append] at ho3)
    (try simp only [Nat.zero_add])
    have HF3 := hid ((show Fr (fun _ => False) w2 _ by (repeat' (first | with_reducible exact Fr.refl _ _ | with_reducible apply Fr.alloc | with_reducible apply Fr.drew | with_reducible apply Fr.drewN | (with_reducible refine Fr.setCell ?_ ?_ _)))).trans hf3 (fun _ _ h => h))
    have HO3 := hid (ho3.mono (R2 := fun z => w2.heap.size ≤ z) (fun z _ h => by (try simp at h); omega))
    clear ho3 hf3
    go_wp2_with (first | (at_builtin; refine wpList_append_Own _ rfl (.tmp 35) (.tmp 36) 27 rfl 41 i0 (.agg #[.int .i64 0, .int .i64 0]) 2 16 Try.underlying27 hi0 hz0 hz1 hz2 rfl (by decide) (fun z => w2.heap.size ≤ z) (fun k => k < w.heap.size) ao3 LA cap3 (dosC la) rfl ?own a2 LM cap2 (dosC lm) rfl ?vw ?one ?b1 ?b2 ?grow) | still_step | (with_reducible refine wpStill_nil ?_) | (with_reducible refine Flow.Both.mk ?_ ?_) | (with_reducible exact True.intro) | (with_reducible refine Flow.same_mk rfl rfl rfl ?_; go_simp; done) | (with_reducible exact Flow.same_un rfl rfl rfl) | (refine Flow.region_still mixed ?hB ?_; (case hB => decide +kernel)))
    case own => exact HO3.out.fr (S := fun _ => False) (show Fr (fun _ => False) w3 _ by (repeat' (first | with_reducible exact Fr.refl _ _ | with_reducible apply Fr.alloc | with_reducible apply Fr.drew | with_reducible apply Fr.drewN | (with_reducible refine Fr.setCell ?_ ?_ _)))) (fun _ _ h => h)
    case vw => exact HU.out.fr ((HF2.out.trans HF3.out (fun _ _ h => h)).trans (show Fr (fun _ => False) w3 _ by (repeat' (first | with_reducible exact Fr.refl _ _ | with_reducible apply Fr.alloc | with_reducible apply Fr.drew | with_reducible apply Fr.drewN | (with_reducible refine Fr.setCell ?_ ?_ _)))) (fun _ _ h => h)) (fun _ _ h => h)
    case one => exact dosC_one _
    case b1 => unfold maxLen; omega
    case b2 => omega
    case grow =>
    intro ao4 cap4 w4 ho4 hf4
    obtain ⟨lt, hlt⟩ : ∃ lt, lt = la ++ lm := ⟨_, rfl⟩
    obtain ⟨LT, hLT⟩ : ∃ LT, LT = LA + LM := ⟨_, rfl⟩
    have HLT := hid (show LT = lt.length by rw [hlt, List.length_append, ← HLA.out, ← HLM.out]; exact hLT)
    have hlt120 : LT ≤ 120 := by omega
    have HPRE := hid (show la <+: lt by rw [hlt]; exact List.prefix_append _ _)
    rw [← dosC_app, ← hlt, ← hLT] at ho4
    rw [← hLT]
    have HVT := hid (ho4.vw.mono (R2 := fun _ => True) (fun _ _ => trivial))
    have HF24 := hid ((HF3.out.trans (show Fr (fun _ => False) w3 _ by (repeat' (first | with_reducible exact Fr.refl _ _ | with_reducible apply Fr.alloc | with_reducible apply Fr.drew | with_reducible apply Fr.drewN | (with_reducible refine Fr.setCell ?_ ?_ _)))) (fun _ _ h => h)).trans hf4 (fun z hz h => by have h' : w2.heap.size ≤ z := h; omega))
    have HF4 := hid (HF2.out.trans HF24.out (fun _ _ h => h))
    have HX4 := hid (HX2.out.fr HF24.out (fun h => h))
    have HVA := hid ((HV.out.fr HF4.out (fun _ _ h => h)).mono (R2 := fun _ => True) (fun _ _ => trivial))
    clear ho4 hf4 hlt hLT HO3 HF3 HF2 HX2 HV HU HF24
    obtain ⟨words, rfl⟩ : ∃ n : Nat, words = n := ⟨words.toNat, by have := hg.2.2.2.1; omega⟩
    obtain ⟨locks, rfl⟩ : ∃ n : Nat, locks = n := ⟨locks.toNat, by have := hg.2.1; omega⟩
    have hlk8 : locks ≤ 8 := by have := hg.2.2.1; omega
    have HG := hid hg
    have HLN := hid hln
    clear hg hln HFEW
    obtain ⟨s0, hs0⟩ : ∃ x, x = startS (qs.map (·.2)) words [] locks 2 4 := ⟨_, rfl⟩
    have hft : Fits s0 0 := by
      rw [hs0]
      refine start_fits (fun c hc i hi => ?_) (by omega) (by omega) (by omega)
      obtain ⟨q, hq, rfl⟩ := List.mem_map.1 hc
      exact HG.out.2.2.2.2.2 q hq i hi
    have hp := runs_prefix s0 HPRE.out
    have hb1 := bare_prefix hp
    have hb2 := proj_prefix hp
    have hb3 := bare_le (runs s0 la).2
    have hb4 := bare_le (runs s0 lt).2
    have hb5 : ((runs s0 lt).2.map projD).length ≤ 120 := by have h1 := runs_len lt s0; have h2 := HLT.out; rw [List.length_map]; omega
    obtain ⟨A, hA⟩ : ∃ x, x = bareD (runs s0 la).2 := ⟨_, rfl⟩
    obtain ⟨B, hB⟩ : ∃ x, x = bareD (runs s0 lt).2 := ⟨_, rfl⟩
    obtain ⟨C, hC⟩ : ∃ x, x = (runs s0 la).2.map projD := ⟨_, rfl⟩
    obtain ⟨D, hD⟩ : ∃ x, x = (runs s0 lt).2.map projD := ⟨_, rfl⟩
    rw [← hA, ← hB] at hb1
    rw [← hC, ← hD] at hb2
    rw [← hA, ← hC] at hb3
    rw [← hB, ← hD] at hb4
    rw [← hD] at hb5
    have HA5 := hid hA
    have HB5 := hid hB
    have HC5 := hid hC
    have HD5 := hid hD
    have HAB := hid hb1
    have HCD := hid hb2
    have hn1 := hb1.length_le
    have hn2 := hb2.length_le
    have HFT := hid hft
    have HS0 := hid hs0
    have HNN := hid (⟨hb3, hb4, hb5, hn1, hn2⟩ : _ ∧ _ ∧ _ ∧ _ ∧ _)
    clear hft hs0 hp hb1 hb2 hb3 hb4 hb5 hn1 hn2 hA hB hC hD HPRE
    have hx4 := HX4.out
    have c0_i := Blk.cell hx4 0
    have f0_i := Blk.free hx4 0
    have c1_i := Blk.cell hx4 1
    have f1_i := Blk.free hx4 1
    have c2_i := Blk.cell hx4 2
    have f2_i := Blk.free hx4 2
    have c3_i := Blk.cell hx4 3
    have f3_i := Blk.free hx4 3
    have l_i := Blk.lt hx4
    clear hx4
    go_wp2_with (first | fail | still_step | (with_reducible refine wpStill_nil ?_) | (with_reducible refine Flow.Both.mk ?_ ?_) | (with_reducible exact True.intro) | (with_reducible refine Flow.same_mk rfl rfl rfl ?_; go_simp; done) | (with_reducible exact Flow.same_un rfl rfl rfl) | (refine Flow.region_still mixed ?hB ?_; (case hB => decide +kernel)))
    go_at_call 21
    clear c0_i f0_i c1_i f1_i c2_i f2_i c3_i f3_i l_i
    refine Calls.named fun wc hwc => ?_
    have hfc : Fr (fun _ => False) w4 wc := by rw [hwc]; (repeat' (first | with_reducible exact Fr.refl _ _ | with_reducible apply Fr.alloc | with_reducible apply Fr.drew | with_reducible apply Fr.drewN | (with_reducible refine Fr.setCell ?_ ?_ _)))
    have hbz : Blk wc w4.heap.size #[.int .i64 2, .int .i64 4] 35 := by rw [hwc]; exact Blk.new _ _ _
    have HFC := hid (HF4.out.trans hfc (fun _ _ h => h))
    have hli := list_is (fun k => k < w.heap.size) (fun k => k < w.heap.size) ao none aa a1 co 0 AL ac cap1 qs words locks 2 4 [] la wc (HC.out.fr HFC.out (fun _ _ h => h)) ⟨by simp [ints], .inl rfl⟩ (fun _ => rfl) (by omega) (by simp) (fun q hq => by have := HLN.out q hq; omega) (by omega) hlk8 (by omega) (by omega) (by rw [← HS0.out]; exact HFT.out) (by rw [← HLA.out]; omega) (by rw [← HLA.out]; exact HVA.out.fr hfc (fun _ _ h => h))
    rw [← HS0.out, ← HA5.out, ← HLA.out, ← HQL.out] at hli
    refine hli.mono ?_
    clear hli hwc
    rintro e w5 ⟨a5, c5, rfl, ho5, hf5⟩
    have HO5 := hid ho5
    have HG5 := hid (hfc.trans hf5 (fun _ _ h => h))
    have HZ5 := hid (hbz.fr hf5 (fun h => h))
    have HQ5 := hid (Fr.refl (fun _ => False) w5)
    clear ho5 hf5 hfc hbz HFC
    have hx5 := HX4.out.fr HG5.out (fun h => h)
    have hz5 := HZ5.out.fr HQ5.out (fun h => h)
    have c0_i := Blk.cell hx5 0
    have f0_i := Blk.free hx5 0
    have c1_i := Blk.cell hx5 1
    have f1_i := Blk.free hx5 1
    have c2_i := Blk.cell hx5 2
    have f2_i := Blk.free hx5 2
    have c3_i := Blk.cell hx5 3
    have f3_i := Blk.free hx5 3
    have l_i := Blk.lt hx5
    have c0_z := Blk.cell hz5 0
    have f0_z := Blk.free hz5 0
    have c1_z := Blk.cell hz5 1
    have f1_z := Blk.free hz5 1
    have l_z := Blk.lt hz5
    clear hx5 hz5
    go_wp2_with (first | fail | still_step | (with_reducible refine wpStill_nil ?_) | (with_reducible refine Flow.Both.mk ?_ ?_) | (with_reducible exact True.intro) | (with_reducible refine Flow.same_mk rfl rfl rfl ?_; go_simp; done) | (with_reducible exact Flow.same_un rfl rfl rfl) | (refine Flow.region_still mixed ?hB ?_; (case hB => decide +kernel)))
    go_at_call 21
    clear c0_i f0_i c1_i f1_i c2_i f2_i c3_i f3_i l_i c0_z f0_z c1_z f1_z l_z
    refine Calls.named fun wc hwc => ?_
    have hfc : Fr (fun _ => False) w5 wc := by rw [hwc]; (repeat' (first | with_reducible exact Fr.refl _ _ | with_reducible apply Fr.alloc | with_reducible apply Fr.drew | with_reducible apply Fr.drewN | (with_reducible refine Fr.setCell ?_ ?_ _)))
    have HGC := hid (HG5.out.trans hfc (fun _ _ h => h))
    have HFC := hid (HF4.out.trans HGC.out (fun _ _ h => h))
    have hli := list_is (fun k => k < w.heap.size) (fun k => k < w.heap.size) ao none aa ao4 co 0 AL ac cap4 qs words locks 2 4 [] lt wc (HC.out.fr HFC.out (fun _ _ h => h)) ⟨by simp [ints], .inl rfl⟩ (fun _ => rfl) (by omega) (by simp) (fun q hq => by have := HLN.out q hq; omega) (by omega) hlk8 (by omega) (by omega) (by rw [← HS0.out]; exact HFT.out) (by rw [← HLT.out]; omega) (by rw [← HLT.out]; exact HVT.out.fr HGC.out (fun _ _ h => h))
    rw [← HS0.out, ← HB5.out, ← HLT.out, ← HQL.out] at hli
    refine hli.mono ?_
    clear hli hwc
    rintro e w6 ⟨a6, c6, rfl, ho6, hf6⟩
    have HO6 := hid ho6
    have HG6 := hid (HGC.out.trans hf6 (fun _ _ h => h))
    have HQ6 := hid ((HQ5.out.trans hfc (fun _ _ h => h)).trans hf6 (fun _ _ h => h))
    have HD6 := hid (hfc.trans hf6 (fun _ _ h => h))
    clear ho6 hf6 hfc HGC HFC
    have hx6 := HX4.out.fr HG6.out (fun h => h)
    have hz6 := HZ5.out.fr HQ6.out (fun h => h)
    have c0_i := Blk.cell hx6 0
    have f0_i := Blk.free hx6 0
    have c1_i := Blk.cell hx6 1
    have f1_i := Blk.free hx6 1
    have c2_i := Blk.cell hx6 2
    have f2_i := Blk.free hx6 2
    have c3_i := Blk.cell hx6 3
    have f3_i := Blk.free hx6 3
    have l_i := Blk.lt hx6
    have c0_z := Blk.cell hz6 0
    have f0_z := Blk.free hz6 0
    have c1_z := Blk.cell hz6 1
    have f1_z := Blk.free hz6 1
    have l_z := Blk.lt hz6
    clear hx6 hz6
    go_wp2_with (first | fail | still_step | (with_reducible refine wpStill_nil ?_) | (with_reducible refine Flow.Both.mk ?_ ?_) | (with_reducible exact True.intro) | (with_reducible refine Flow.same_mk rfl rfl rfl ?_; go_simp; done) | (with_reducible exact Flow.same_un rfl rfl rfl) | (refine Flow.region_still mixed ?hB ?_; (case hB => decide +kernel)))
    go_at_call 22
    clear c0_i f0_i c1_i f1_i c2_i f2_i c3_i f3_i l_i c0_z f0_z c1_z f1_z l_z
    refine Calls.named fun wc hwc => ?_
    have hfc : Fr (fun _ => False) w6 wc := by rw [hwc]; (repeat' (first | with_reducible exact Fr.refl _ _ | with_reducible apply Fr.alloc | with_reducible apply Fr.drew | with_reducible apply Fr.drewN | (with_reducible refine Fr.setCell ?_ ?_ _)))
    have HGC := hid (HG6.out.trans hfc (fun _ _ h => h))
    have HFC := hid (HF4.out.trans HGC.out (fun _ _ h => h))
    have hli := legal_is (fun k => k < w.heap.size) (fun k => k < w.heap.size) ao none aa a1 co 0 AL ac cap1 qs words locks 2 4 [] la wc (HC.out.fr HFC.out (fun _ _ h => h)) ⟨by simp [ints], .inl rfl⟩ (fun _ => rfl) (by omega) (by simp) (fun q hq => by have := HLN.out q hq; omega) (by omega) hlk8 (by omega) (by omega) (by rw [← HS0.out]; exact HFT.out) (by rw [← HLA.out]; omega) (by rw [← HLA.out]; exact HVA.out.fr HGC.out (fun _ _ h => h))
    rw [← HS0.out, ← HC5.out, ← HLA.out, ← HQL.out] at hli
    refine hli.mono ?_
    clear hli hwc
    rintro e w7 ⟨a7, c7, rfl, ho7, hf7⟩
    have HO7 := hid ho7
    have HG7 := hid (HGC.out.trans hf7 (fun _ _ h => h))
    have HQ7 := hid ((HQ6.out.trans hfc (fun _ _ h => h)).trans hf7 (fun _ _ h => h))
    have HD7 := hid (hfc.trans hf7 (fun _ _ h => h))
    clear ho7 hf7 hfc HGC HFC
    have hx7 := HX4.out.fr HG7.out (fun h => h)
    have hz7 := HZ5.out.fr HQ7.out (fun h => h)
    have c0_i := Blk.cell hx7 0
    have f0_i := Blk.free hx7 0
    have c1_i := Blk.cell hx7 1
    have f1_i := Blk.free hx7 1
    have c2_i := Blk.cell hx7 2
    have f2_i := Blk.free hx7 2
    have c3_i := Blk.cell hx7 3
    have f3_i := Blk.free hx7 3
    have l_i := Blk.lt hx7
    have c0_z := Blk.cell hz7 0
    have f0_z := Blk.free hz7 0
    have c1_z := Blk.cell hz7 1
    have f1_z := Blk.free hz7 1
    have l_z := Blk.lt hz7
    clear hx7 hz7
    go_wp2_with (first | fail | still_step | (with_reducible refine wpStill_nil ?_) | (with_reducible refine Flow.Both.mk ?_ ?_) | (with_reducible exact True.intro) | (with_reducible refine Flow.same_mk rfl rfl rfl ?_; go_simp; done) | (with_reducible exact Flow.same_un rfl rfl rfl) | (refine Flow.region_still mixed ?hB ?_; (case hB => decide +kernel)))
    go_at_call 22
    clear c0_i f0_i c1_i f1_i c2_i f2_i c3_i f3_i l_i c0_z f0_z c1_z f1_z l_z
    refine Calls.named fun wc hwc => ?_
    have hfc : Fr (fun _ => False) w7 wc := by rw [hwc]; (repeat' (first | with_reducible exact Fr.refl _ _ | with_reducible apply Fr.alloc | with_reducible apply Fr.drew | with_reducible apply Fr.drewN | (with_reducible refine Fr.setCell ?_ ?_ _)))
    have HGC := hid (HG7.out.trans hfc (fun _ _ h => h))
    have HFC := hid (HF4.out.trans HGC.out (fun _ _ h => h))
    have hli := legal_is (fun k => k < w.heap.size) (fun k => k < w.heap.size) ao none aa ao4 co 0 AL ac cap4 qs words locks 2 4 [] lt wc (HC.out.fr HFC.out (fun _ _ h => h)) ⟨by simp [ints], .inl rfl⟩ (fun _ => rfl) (by omega) (by simp) (fun q hq => by have := HLN.out q hq; omega) (by omega) hlk8 (by omega) (by omega) (by rw [← HS0.out]; exact HFT.out) (by rw [← HLT.out]; omega) (by rw [← HLT.out]; exact HVT.out.fr HGC.out (fun _ _ h => h))
    rw [← HS0.out, ← HD5.out, ← HLT.out, ← HQL.out] at hli
    refine hli.mono ?_
    clear hli hwc
    rintro e w8 ⟨a8, c8, rfl, ho8, hf8⟩
    have HO8 := hid ho8
    have HG8 := hid (HGC.out.trans hf8 (fun _ _ h => h))
    have HQ8 := hid ((HQ7.out.trans hfc (fun _ _ h => h)).trans hf8 (fun _ _ h => h))
    have HD8 := hid (hfc.trans hf8 (fun _ _ h => h))
    clear ho8 hf8 hfc HGC HFC
    have e68 := HD7.out.trans HD8.out (fun _ _ h => h)
    have hq8 := HQ8.out
    have HB8 := hid (HO6.out.fr (S := fun _ => False) e68 (fun _ _ h => h))
    have HA8 := hid ((HO5.out.fr (S := fun _ => False) hq8 (fun _ _ h => h)).vw.mono (R2 := fun _ => True) (fun _ _ => trivial))
    have HC8 := hid ((HO7.out.fr (S := fun _ => False) HD8.out (fun _ _ h => h)).vw.mono (R2 := fun _ => True) (fun _ _ => trivial))
    have HSB := hid ((HB8.out.shrink HNN.out.2.2.2.1).vw.mono (R2 := fun _ => True) (fun _ _ => trivial))
    have HSD := hid ((HO8.out.shrink HNN.out.2.2.2.2).vw.mono (R2 := fun _ => True) (fun _ _ => trivial))
    have HTB := hid (show (dosC B).take (A.length * 2) = dosC A by
      obtain ⟨z, hz⟩ := HAB.out
      rw [← hz, dosC_app, ← dosC_length, List.take_left])
    have HTD := hid (show (dosC D).take (C.length * 2) = dosC C by
      obtain ⟨z, hz⟩ := HCD.out
      rw [← hz, dosC_app, ← dosC_length, List.take_left])
    have hcb : B.length ≤ c6 := HB8.out.1
    have hcd : D.length ≤ c8 := HO8.out.1
    obtain ⟨n1, n2, n3, n4, n5⟩ := HNN.out
    clear e68 hq8 HO5 HO6 HO7 HO8 HD6 HD7 HD8 HQ5 HQ6 HQ7 HQ8 HB8 HX4 HZ5 HAB HCD HVT HVA
    obtain ⟨NA, hNA⟩ : ∃ x, x = A.length := ⟨_, rfl⟩
    obtain ⟨NB, hNB⟩ : ∃ x, x = B.length := ⟨_, rfl⟩
    obtain ⟨NC, hNC⟩ : ∃ x, x = C.length := ⟨_, rfl⟩
    obtain ⟨ND, hND⟩ : ∃ x, x = D.length := ⟨_, rfl⟩
    have HNA := hid hNA
    have HNC := hid hNC
    rw [HTB.out] at HSB
    rw [HTD.out] at HSD
    rw [← hNA, ← hNB, ← hNC, ← hND]
    rw [← hNB] at hcb n2 n4
    rw [← hND] at hcd n2 n3 n5
    rw [← hNA] at n1 n4
    rw [← hNC] at n1 n5
    have m1 : ((NA : Nat) : Int) ≤ (NB : Nat) := by omega
    have m2 : ((NC : Nat) : Int) ≤ (ND : Nat) := by omega
    have m3 : ((NA : Nat) : Int) ≤ (NC : Nat) := by omega
    have m4 : ((NB : Nat) : Int) ≤ (ND : Nat) := by omega
    have m5 : NA ≤ c6 := by omega
    have m6 : NC ≤ c8 := by omega
    clear hNA hNB hNC hND
    go_wp2_with (first | fail | still_step | (with_reducible refine wpStill_nil ?_) | (with_reducible refine Flow.Both.mk ?_ ?_) | (with_reducible exact True.intro) | (with_reducible refine Flow.same_mk rfl rfl rfl ?_; go_simp; done) | (with_reducible exact Flow.same_un rfl rfl rfl) | (refine Flow.region_still mixed ?hB ?_; (case hB => decide +kernel)))
    go_at_call 24
    refine Calls.named fun wc hwc => ?_
    have hfc : Fr (fun _ => False) w8 wc := by rw [hwc]; (repeat' (first | with_reducible exact Fr.refl _ _ | with_reducible apply Fr.alloc | with_reducible apply Fr.drew | with_reducible apply Fr.drewN | (with_reducible refine Fr.setCell ?_ ?_ _)))
    rw [HNA.out]
    refine (plain30_is a6 c6 A wc (HSB.out.fr hfc (fun _ _ h => h)) (by have := HNA.out; omega)).mono ?_
    rintro e w9 ⟨ap9, cp9, rfl, ho9, hf9⟩
    have HP9 := hid (ho9.vw.mono (R2 := fun _ => True) (fun _ _ => trivial))
    have HE9 := hid (hfc.trans hf9 (fun _ _ h => h))
    rw [← HNA.out]
    clear hwc hfc ho9 hf9
    go_wp2_with (first | fail | still_step | (with_reducible refine wpStill_nil ?_) | (with_reducible refine Flow.Both.mk ?_ ?_) | (with_reducible exact True.intro) | (with_reducible refine Flow.same_mk rfl rfl rfl ?_; go_simp; done) | (with_reducible exact Flow.same_un rfl rfl rfl) | (refine Flow.region_still mixed ?hB ?_; (case hB => decide +kernel)))
    go_at_call 23
    refine Calls.named fun wc hwc => ?_
    have hfc : Fr (fun _ => False) w9 wc := by rw [hwc]; (repeat' (first | with_reducible exact Fr.refl _ _ | with_reducible apply Fr.alloc | with_reducible apply Fr.drew | with_reducible apply Fr.drewN | (with_reducible refine Fr.setCell ?_ ?_ _)))
    rw [HNA.out]
    refine (same30_is a5 ap9 c5 cp9 A A wc ((HA8.out.fr HE9.out (fun _ _ h => h)).fr hfc (fun _ _ h => h)) (HP9.out.fr hfc (fun _ _ h => h)) (by have := HNA.out; omega)).mono ?_
    rintro e wS9 ⟨rfl, hf9⟩
    rw [decide_eq_true (rfl : A = A)]
    have HT9 := hid ((HE9.out.trans hfc (fun _ _ h => h)).trans hf9 (fun _ _ h => h))
    rw [← HNA.out]
    clear hwc hfc hf9 HE9 HP9
    go_wp2_with (first | fail | still_step | (with_reducible refine wpStill_nil ?_) | (with_reducible refine Flow.Both.mk ?_ ?_) | (with_reducible exact True.intro) | (with_reducible refine Flow.same_mk rfl rfl rfl ?_; go_simp; done) | (with_reducible exact Flow.same_un rfl rfl rfl) | (refine Flow.region_still mixed ?hB ?_; (case hB => decide +kernel)))
    have HSDx := hid (HSD.out.fr HT9.out (fun _ _ h => h))
    have HC8x := hid (HC8.out.fr HT9.out (fun _ _ h => h))
    go_at_call 24
    refine Calls.named fun wc hwc => ?_
    have hfc : Fr (fun _ => False) wS9 wc := by rw [hwc]; (repeat' (first | with_reducible exact Fr.refl _ _ | with_reducible apply Fr.alloc | with_reducible apply Fr.drew | with_reducible apply Fr.drewN | (with_reducible refine Fr.setCell ?_ ?_ _)))
    rw [HNC.out]
    refine (plain30_is a8 c8 C wc (HSDx.out.fr hfc (fun _ _ h => h)) (by have := HNC.out; omega)).mono ?_
    rintro e w10 ⟨ap10, cp10, rfl, ho10, hf10⟩
    have HP10 := hid (ho10.vw.mono (R2 := fun _ => True) (fun _ _ => trivial))
    have HE10 := hid (hfc.trans hf10 (fun _ _ h => h))
    rw [← HNC.out]
    clear hwc hfc ho10 hf10
    go_wp2_with (first | fail | still_step | (with_reducible refine wpStill_nil ?_) | (with_reducible refine Flow.Both.mk ?_ ?_) | (with_reducible exact True.intro) | (with_reducible refine Flow.same_mk rfl rfl rfl ?_; go_simp; done) | (with_reducible exact Flow.same_un rfl rfl rfl) | (refine Flow.region_still mixed ?hB ?_; (case hB => decide +kernel)))
    go_at_call 23
    refine Calls.named fun wc hwc => ?_
    have hfc : Fr (fun _ => False) w10 wc := by rw [hwc]; (repeat' (first | with_reducible exact Fr.refl _ _ | with_reducible apply Fr.alloc | with_reducible apply Fr.drew | with_reducible apply Fr.drewN | (with_reducible refine Fr.setCell ?_ ?_ _)))
    rw [HNC.out]
    refine (same30_is a7 ap10 c7 cp10 C C wc ((HC8x.out.fr HE10.out (fun _ _ h => h)).fr hfc (fun _ _ h => h)) (HP10.out.fr hfc (fun _ _ h => h)) (by have := HNC.out; omega)).mono ?_
    rintro e wS10 ⟨rfl, hf10⟩
    rw [decide_eq_true (rfl : C = C)]
    have HT10 := hid ((HE10.out.trans hfc (fun _ _ h => h)).trans hf10 (fun _ _ h => h))
    rw [← HNC.out]
    clear hwc hfc hf10 HE10 HP10
    go_wp2_with (first | fail | still_step | (with_reducible refine wpStill_nil ?_) | (with_reducible refine Flow.Both.mk ?_ ?_) | (with_reducible exact True.intro) | (with_reducible refine Flow.same_mk rfl rfl rfl ?_; go_simp; done) | (with_reducible exact Flow.same_un rfl rfl rfl) | (refine Flow.region_still mixed ?hB ?_; (case hB => decide +kernel)))
    go_ret
    exact ⟨rfl, ((HF4.out.trans HG8.out (fun _ _ h => h)).trans HT9.out (fun _ _ h => h)).trans (HT10.out.trans (show Fr (fun _ => False) wS10 _ by (repeat' (first | with_reducible exact Fr.refl _ _ | with_reducible apply Fr.alloc | with_reducible apply Fr.drew | with_reducible apply Fr.drewN | (with_reducible refine Fr.setCell ?_ ?_ _)))) (fun _ _ h => h)) (fun _ _ h => h)⟩
end Go.Proofs.Ytbfeopakmjcapaa.Sp
