/-
  TwinBoth: which one of two is first plays no part; one with itself never parts, and is alike; where they part is no further, if there is more behind.
-/
import Derived.Test.YtbfeopakmjcapaaAwake33
import Derived.Test.YtbfeopakmjcapaaSmall33
set_option linter.unusedVariables false
set_option linter.unusedSimpArgs false
set_option maxHeartbeats 4000000
set_option maxRecDepth 8000
namespace Go.Proofs.Ytbfeopakmjcapaa.Sp
open Go.RowKit Go.Proofs.Ytbfeopakmjcapaa.Seq Go.Proofs.Ytbfeopakmjcapaa.Tso
attribute [local irreducible] wpStill wpList Calls CallsIn

theorem dosC_one (l : List (Int × Int)) : ∀ u ∈ dosC l, u.oneCell' = true := by
  intro u hu
  obtain ⟨a, _, h⟩ := List.mem_flatMap.1 hu
  simp at h
  rcases h with rfl | rfl <;> rfl
theorem dosC_app (a b : List (Int × Int)) : dosC (a ++ b) = dosC a ++ dosC b := by simp [dosC]

set_option maxHeartbeats 40000000 in
set_option maxRecDepth 100000 in
theorem both_walk (ao aa a1 a2 a3 a4 : Option Addr) (co ac c1 c2 c3 c4 : Nat) (qs : List ((Option Addr × Nat) × List Ins)) (al : List (Int × Int × Bool)) (words locks room window : Int) (ma mb : List Int) (l more : List (Int × Int)) (w : World)
    (hc : Codes w (fun k => k < w.heap.size) ao qs) (ha : Vw w 3 (fun k => k < w.heap.size) aa al.length (areaC al)) (hal : al.length ≤ 9223372036854775807) (hql : qs.length ≤ 9223372036854775807) (hi : ∀ q ∈ qs, q.2.length ≤ 9223372036854775807)
    (hma : Vw w 1 (fun k => k < w.heap.size) a1 ma.length (ints ma)) (hna : a1 = none → ma.length = 0) (hla : ma.length ≤ 9223372036854775807) (hmb : Vw w 1 (fun k => k < w.heap.size) a2 mb.length (ints mb)) (hnb : a2 = none → mb.length = 0) (hlb : mb.length ≤ 9223372036854775807)
    (hv : Vw w 2 (fun k => k < w.heap.size) a3 l.length (dosC l)) (hll : l.length ≤ 9223372036854775807) (hu : Vw w 2 (fun k => k < w.heap.size) a4 more.length (dosC more)) (hlm : more.length ≤ 9223372036854775807) :
    Calls Try.prog 9 #[.agg #[.slice ao qs.length co, .slice aa al.length ac, .int .i64 words, .int .i64 locks, .slice a1 ma.length c1, .slice a2 mb.length c2, .int .i64 room, .int .i64 window, .slice a3 l.length c3], .slice a4 more.length c4] w fun e w' => e = .returned (.bool true) ∧ Fr (fun _ => False) w w' := by
  obtain ⟨i0, hi0, hz0, hz1, hz2⟩ := info_parts infoDOf
  have HC := hid hc
  have HA := hid ha
  have HI := hid hi
  have HMA := hid hma
  have HMB := hid hmb
  have HNA := hid hna
  have HNB := hid hnb
  have hqal := hid (And.intro hql hal)
  clear hc ha hi hql hal hma hmb hna hnb
  obtain ⟨QL, hQL⟩ : ∃ x, x = qs.length := ⟨_, rfl⟩
  obtain ⟨AL, hAL⟩ : ∃ x, x = al.length := ⟨_, rfl⟩
  obtain ⟨MA, hMA⟩ : ∃ x, x = ma.length := ⟨_, rfl⟩
  obtain ⟨MB, hMB⟩ : ∃ x, x = mb.length := ⟨_, rfl⟩
  obtain ⟨LL, hLL⟩ : ∃ x, x = l.length := ⟨_, rfl⟩
  obtain ⟨LM, hLM⟩ : ∃ x, x = more.length := ⟨_, rfl⟩
  have HQL := hid hQL
  have HAL := hid hAL
  have HMAL := hid hMA
  have HMBL := hid hMB
  have HLL := hid hLL
  have HLM := hid hLM
  rw [← hMA] at hla
  rw [← hMB] at hlb
  rw [← hLL] at hll hv
  rw [← hLM] at hlm hu
  rw [← hQL, ← hAL, ← hMA, ← hMB, ← hLL, ← hLM]
  have HV := hid hv
  have HU := hid hu
  clear hQL hAL hMA hMB hLL hLM hv hu
  obtain ⟨PC, hPC⟩ : ∃ x : Option Addr → Nat → Nat → Option Addr → Nat → Nat → Option Addr → Nat → Nat → Array Value, x = fun x1 n1 d1 x2 n2 d2 x3 n3 d3 => #[.slice ao QL co, .slice aa AL ac, .int .i64 words, .int .i64 locks, .slice x1 n1 d1, .slice x2 n2 d2, .int .i64 room, .int .i64 window, .slice x3 n3 d3] := ⟨_, rfl⟩
  have HX := hid (Blk.new w #[.slice ao QL co, .slice aa AL ac, .int .i64 words, .int .i64 locks, .slice a1 MA c1, .slice a2 MB c2, .int .i64 room, .int .i64 window, .slice a3 LL c3] 69)
  clear hPC PC
  go_enter Try.func9, Try.ntmps9
  go_wp2_with (first | still_step | (with_reducible first | refine wpStill_nil ?_ | refine Flow.Both.mk ?_ ?_ | exact True.intro) | (with_reducible refine Flow.same_mk rfl rfl rfl ?_; go_simp; done) | (with_reducible exact Flow.same_un rfl rfl rfl))
  go_at_call 26
  refine Calls.named fun wc hwc => ?_
  have hfc : Fr (fun _ => False) w wc := by rw [hwc]; (with_reducible repeat' (first | exact Fr.refl _ _ | apply Fr.alloc | apply Fr.drew | apply Fr.drewN | refine Fr.setCell ?_ ?_ _))
  have hxc : Blk wc w.heap.size #[.slice ao QL co, .slice aa AL ac, .int .i64 words, .int .i64 locks, .slice a1 MA c1, .slice a2 MB c2, .int .i64 room, .int .i64 window, .slice a3 LL c3] 69 := by rw [hwc]; (repeat (first | exact HX.out | with_reducible apply Blk.drew | with_reducible apply Blk.alloc))
  refine (awake33_true _).mono ?_
  rintro e w1 ⟨rfl, hf1⟩
  have HF1 := hid (hfc.trans hf1 (fun _ _ h => h))
  have HX1 := hid (hxc.fr hf1 (fun h => h))
  have HC1 := hid (HC.out.fr HF1.out (fun _ _ h => h))
  have HA1 := hid (HA.out.fr HF1.out (fun _ _ h => h))
  clear hf1 HX hwc hfc hxc
  have hx := HX1.out
  have c0_p := hx.cell 0
  have c1_p := hx.cell 1
  have c2_p := hx.cell 2
  have c3_p := hx.cell 3
  have c4_p := hx.cell 4
  have c5_p := hx.cell 5
  have c6_p := hx.cell 6
  have c7_p := hx.cell 7
  have c8_p := hx.cell 8
  have l_p := hx.lt
  clear hx
  go_wp2_with (first | still_step | (with_reducible first | refine wpStill_nil ?_ | refine Flow.Both.mk ?_ ?_ | exact True.intro) | (with_reducible refine Flow.same_mk rfl rfl rfl ?_; go_simp; done) | (with_reducible exact Flow.same_un rfl rfl rfl))
  clear c0_p c1_p c2_p c3_p c4_p c5_p c6_p c7_p c8_p l_p
  go_at_call 27
  rw [HQL.out, HAL.out]
  refine Calls.named fun wc hwc => ?_
  have hfc : Fr (fun _ => False) w1 wc := by rw [hwc]; (with_reducible repeat' (first | exact Fr.refl _ _ | apply Fr.alloc | apply Fr.drew | apply Fr.drewN | refine Fr.setCell ?_ ?_ _))
  refine (small33_is _ _ ao aa a1 a2 a3 co ac c1 c2 c3 MA MB LL qs al words locks room window wc (HC1.out.fr hfc (fun _ _ h => h)) (HA1.out.fr hfc (fun _ _ h => h)) hqal.out.2 hqal.out.1 HI.out).mono ?_
  rintro e w2 ⟨few, rfl, hfew, hf2⟩
  rw [← HQL.out, ← HAL.out]
  have HFEW := hid hfew
  have HX2 := hid ((HX1.out.fr hfc (fun h => h)).fr hf2 (fun h => h))
  have HF2 := hid ((HF1.out.trans hfc (fun _ _ h => h)).trans hf2 (fun _ _ h => h))
  clear hf2 hfew HX1 HF1 HC1 HA1 hwc hfc
  have hx := HX2.out
  have c0_p := hx.cell 0
  have c1_p := hx.cell 1
  have c2_p := hx.cell 2
  have c3_p := hx.cell 3
  have c4_p := hx.cell 4
  have c5_p := hx.cell 5
  have c6_p := hx.cell 6
  have c7_p := hx.cell 7
  have c8_p := hx.cell 8
  have l_p := hx.lt
  clear hx
  cases few with
  | false =>
    go_wp2_with (first | still_step | (with_reducible first | refine wpStill_nil ?_ | refine Flow.Both.mk ?_ ?_ | exact True.intro) | (with_reducible refine Flow.same_mk rfl rfl rfl ?_; go_simp; done) | (with_reducible exact Flow.same_un rfl rfl rfl))
    go_ret
    exact ⟨rfl, HF2.out⟩
  | true =>
    obtain ⟨⟨hg, har⟩, hwd, hln, hn1, hn2, hn3⟩ := HFEW.out rfl
    have hq4 : QL ≤ 4 := by rw [HQL.out]; exact hg.1
    by_cases hl6 : 60 < LM
    · go_wp2_with (first | still_step | (with_reducible first | refine wpStill_nil ?_ | refine Flow.Both.mk ?_ ?_ | exact True.intro) | (with_reducible refine Flow.same_mk rfl rfl rfl ?_; go_simp; done) | (with_reducible exact Flow.same_un rfl rfl rfl))
      go_ret
      exact ⟨rfl, HF2.out⟩
    obtain ⟨words, rfl⟩ : ∃ n : Nat, words = n := ⟨words.toNat, by have := hg.2.2.2.1; omega⟩
    obtain ⟨locks, rfl⟩ : ∃ n : Nat, locks = n := ⟨locks.toNat, by have := hg.2.1; omega⟩
    have hlk8 : locks ≤ 8 := by have := hg.2.2.1; omega
    have HG := hid hg
    have HLN := hid hln
    have HAR := hid (show areasOk al words from har)
    clear hg hln HFEW har
    have HPT := hid (fun (x1 x2 x3 : Option Addr) (d1 d2 d3 : Nat) (m1 m2 : List Int) (ll : List (Int × Int)) (W : World) (h1 : Fr (fun _ => False) w W) (h2 : Vw w 1 (fun k => k < w.heap.size) x1 m1.length (ints m1)) (h3 : x1 = none → m1.length = 0) (h4 : Vw w 1 (fun k => k < w.heap.size) x2 m2.length (ints m2)) (h5 : x2 = none → m2.length = 0) (h6 : m1.length ≤ 3000) (h7 : m2.length ≤ 3000) (h8 : ll.length ≤ 1000) (h9 : Vw W 2 (fun _ => True) x3 ll.length (dosC ll)) =>
      part_is (fun k => k < w.heap.size) (fun k => k < w.heap.size) ao aa x1 x2 x3 co ac AL d1 d2 d3 qs words locks room window m1 m2 ll W (HC.out.fr h1 (fun _ _ h => h)) (h2.fr h1 (fun _ _ h => h)) h3 (h4.fr h1 (fun _ _ h => h)) h5 (by have := HQL.out; omega) (by omega) (by omega) (fun q hq => by have := HLN.out q hq; omega) (by omega) hlk8 HG.out.2.2.2.2.2 h8 h9)
    have HAK := hid (fun (x1 x2 : Option Addr) (d1 d2 : Nat) (m1 m2 : List Int) (W : World) (h1 : Fr (fun _ => False) w W) (h2 : Vw w 1 (fun k => k < w.heap.size) x1 m1.length (ints m1)) (h4 : Vw w 1 (fun k => k < w.heap.size) x2 m2.length (ints m2)) =>
      alike_is ao aa x1 x2 co ac QL d1 d2 words (words : Nat) (locks : Nat) al m1 m2 W ((HA.out.fr h1 (fun _ _ h => h)).mono (fun _ _ => trivial)) HAR.out hqal.out.2 (by omega) ((h2.fr h1 (fun _ _ h => h)).mono (fun _ _ => trivial)) ((h4.fr h1 (fun _ _ h => h)).mono (fun _ _ => trivial)))
    obtain ⟨cs, hcs⟩ : ∃ x, x = qs.map (·.2) := ⟨_, rfl⟩
    rw [← hcs, ← HQL.out] at HPT
    rw [← HAL.out] at HAK
    clear hcs
    have hsm := traceP_same cs words locks room window l ma mb
    have hlen := traceP_len cs words locks room window l ma
    have hpa := traceP_prefix cs words locks room window (List.prefix_append l more) ma
    have hpb := traceP_prefix cs words locks room window (List.prefix_append l more) mb
    have hmo := partI_more hsm hpa hpb
    have hsw := partI_swap hsm
    have hse := partI_self (traceP cs words locks room window l ma)
    have hle' := traceP_le cs words locks room window l ma
    obtain ⟨PA, hPA⟩ : ∃ x, x = partI (traceP cs words locks room window l ma) (traceP cs words locks room window l mb) := ⟨_, rfl⟩
    obtain ⟨PM, hPM⟩ : ∃ x, x = partI (traceP cs words locks room window (l ++ more) ma) (traceP cs words locks room window (l ++ more) mb) := ⟨_, rfl⟩
    rw [← hPA] at hmo hsw
    rw [← hPM] at hmo
    have hfin : (PA < 0 ∧ (PM < 0 ∨ (LL : Int) ≤ PM)) ∨ (0 ≤ PA ∧ PM = PA) := by
      rcases hmo with ⟨h1, h2⟩ | h
      · left
        refine ⟨h1, ?_⟩
        rcases h2 with h2 | h2
        · exact .inl h2
        · rw [hlen] at h2
          by_cases hgood : (1 ≤ room ∧ room ≤ 1000) ∧ (1 ≤ window ∧ window ≤ 64)
          · rw [if_pos hgood, ← HLL.out] at h2
            exact .inr h2
          · left
            rw [hPM]
            unfold traceP
            rw [if_neg hgood, if_neg hgood, partI_self]
            omega
      · exact .inr h
    have HPA := hid hPA
    have HPM := hid hPM
    have HSW := hid hsw
    have HSE := hid hse
    have HFIN := hid hfin
    clear hsm hlen hpa hpb hmo hsw hse hle' hPA hPM hfin
    obtain ⟨AK, hAK⟩ : ∃ x, x = alikeP al ma mb := ⟨_, rfl⟩
    have HAKE := hid hAK
    clear hAK
    go_wp2_with (first | still_step | (with_reducible first | refine wpStill_nil ?_ | refine Flow.Both.mk ?_ ?_ | exact True.intro) | (with_reducible refine Flow.same_mk rfl rfl rfl ?_; go_simp; done) | (with_reducible exact Flow.same_un rfl rfl rfl))
    go_at_call 28
    refine Calls.named fun wc hwc => ?_
    have hfc : Fr (fun _ => False) w2 wc := by rw [hwc]; (with_reducible repeat' (first | exact Fr.refl _ _ | apply Fr.alloc | apply Fr.drew | apply Fr.drewN | refine Fr.setCell ?_ ?_ _))
    have h7 : Blk wc w2.heap.size #[.slice ao QL co, .slice aa AL ac, .int .i64 (words : Int), .int .i64 (locks : Int), .slice a2 MB c2, .slice a1 MA c1, .int .i64 room, .int .i64 window, .slice a3 LL c3] 69 := by rw [hwc]; (repeat (first | exact Blk.new' (by simp) | with_reducible apply Blk.drew | with_reducible apply Blk.alloc))
    have h8 : Blk wc (w2.heap.size + 1) #[.slice ao QL co, .slice aa AL ac, .int .i64 (words : Int), .int .i64 (locks : Int), .slice a1 MA c1, .slice a1 MA c1, .int .i64 room, .int .i64 window, .slice a3 LL c3] 69 := by rw [hwc]; (repeat (first | exact Blk.new' (by simp) | with_reducible apply Blk.drew | with_reducible apply Blk.alloc))
    have HVT := hid (show ∀ W, Fr (fun _ => False) w W → Vw W 2 (fun _ => True) a3 l.length (dosC l) from fun W h => by
      have := (HV.out.fr h (fun _ _ h => h)).mono (R2 := fun _ => True) (fun _ _ => trivial)
      rw [HLL.out] at this
      exact this)
    have hp := HPT.out a1 a2 a3 c1 c2 c3 ma mb l wc (HF2.out.trans hfc (fun _ _ h => h)) HMA.out HNA.out HMB.out HNB.out (by have := HMAL.out; omega) (by have := HMBL.out; omega) (by have := HLL.out; omega) (HVT.out _ (HF2.out.trans hfc (fun _ _ h => h)))
    rw [← HPA.out, ← HMAL.out, ← HMBL.out, ← HLL.out] at hp
    refine hp.mono ?_
    clear hp
    rintro e w3 ⟨rfl, hf⟩
    have HF3 := hid ((HF2.out.trans hfc (fun _ _ h => h)).trans hf (fun _ _ h => h))
    have HX3 := hid ((HX2.out.fr hfc (fun h => h)).fr hf (fun h => h))
    have H73 := hid (h7.fr hf (fun h => h))
    have H83 := hid (h8.fr hf (fun h => h))
    clear hf hwc hfc HF2 HX2 h7 h8
    clear c0_p c1_p c2_p c3_p c4_p c5_p c6_p c7_p c8_p l_p
    have hx := HX3.out
    have c0_p := hx.cell 0
    have c1_p := hx.cell 1
    have c2_p := hx.cell 2
    have c3_p := hx.cell 3
    have c4_p := hx.cell 4
    have c5_p := hx.cell 5
    have c6_p := hx.cell 6
    have c7_p := hx.cell 7
    have c8_p := hx.cell 8
    have l_p := hx.lt
    clear hx
    have hx := H73.out
    have c0_q := hx.cell 0
    have c1_q := hx.cell 1
    have c2_q := hx.cell 2
    have c3_q := hx.cell 3
    have c4_q := hx.cell 4
    have c5_q := hx.cell 5
    have c6_q := hx.cell 6
    have c7_q := hx.cell 7
    have c8_q := hx.cell 8
    have l_q := hx.lt
    clear hx
    have hx := H83.out
    have c0_s := hx.cell 0
    have c1_s := hx.cell 1
    have c2_s := hx.cell 2
    have c3_s := hx.cell 3
    have c4_s := hx.cell 4
    have c5_s := hx.cell 5
    have c6_s := hx.cell 6
    have c7_s := hx.cell 7
    have c8_s := hx.cell 8
    have l_s := hx.lt
    clear hx
    go_wp2_with (first | still_step | (with_reducible first | refine wpStill_nil ?_ | refine Flow.Both.mk ?_ ?_ | exact True.intro) | (with_reducible refine Flow.same_mk rfl rfl rfl ?_; go_simp; done) | (with_reducible exact Flow.same_un rfl rfl rfl) | (with_reducible refine Flow.region_flow (id := 13) [0, 1, 0, 7, 15, 31, 63, 127, 255, 511, 1023, 2047, 1023, 5119, 1023, 17407, 65535, 131071, 262143, 524287, 1048575, 2097151, 1048575, 5242879, 1048575, 17825791, 67108863, 1048575, 135266303, 1048575, 537919487, 1048575, 2148532223, 8589934591, 17179869183, 34359738367] 8657109058 25701842089 [(0, none), (2, none), (1, some []), (3, none), (4, none), (5, none), (6, some []), (7, none), (8, none), (9, none), (10, none), (11, none), (12, none), (13, none), (14, none), (15, none), (16, some []), (17, none), (18, none), (19, none), (20, none), (21, none), (22, none), (23, none), (24, none), (25, none), (27, none), (28, none), (29, none), (30, none), (31, none), (32, none), (26, some [27, 28, 29, 30, 31, 32]), (33, some []), (34, none), (35, none)] mixed ?hB ?_; (case hB => decide +kernel); simp only [Flow.textOf, Flow.q1, Flow.q2, Flow.q3, Flow.q4, Flow.q5, Flow.q6, Flow.q7, Flow.q8, Flow.q9, Flow.wpFl, Flow.SameAll]) | (refine Flow.region_still mixed ?hB ?_; (case hB => decide +kernel)))
    clear c0_p c1_p c2_p c3_p c4_p c5_p c6_p c7_p c8_p l_p
    clear c0_q c1_q c2_q c3_q c4_q c5_q c6_q c7_q c8_q l_q
    clear c0_s c1_s c2_s c3_s c4_s c5_s c6_s c7_s c8_s l_s
    go_at_call 28
    refine Calls.named fun wc hwc => ?_
    have hfc : Fr (fun _ => False) w3 wc := by rw [hwc]; (with_reducible repeat' (first | exact Fr.refl _ _ | apply Fr.alloc | apply Fr.drew | apply Fr.drewN | refine Fr.setCell ?_ ?_ _))
    have hp := HPT.out a2 a1 a3 c2 c1 c3 mb ma l wc (HF3.out.trans hfc (fun _ _ h => h)) HMB.out HNB.out HMA.out HNA.out (by have := HMAL.out; have := HMBL.out; omega) (by have := HMAL.out; have := HMBL.out; omega) (by have := HLL.out; omega) (HVT.out _ (HF3.out.trans hfc (fun _ _ h => h)))
    rw [HSW.out, ← HMAL.out, ← HMBL.out, ← HLL.out] at hp
    refine hp.mono ?_
    clear hp
    rintro e w4 ⟨rfl, hf⟩
    have HF4 := hid ((HF3.out.trans hfc (fun _ _ h => h)).trans hf (fun _ _ h => h))
    have HX4 := hid ((HX3.out.fr hfc (fun h => h)).fr hf (fun h => h))
    have H74 := hid ((H73.out.fr hfc (fun h => h)).fr hf (fun h => h))
    have H84 := hid ((H83.out.fr hfc (fun h => h)).fr hf (fun h => h))
    clear hf hwc hfc HF3 HX3 H73 H83
    have hx := HX4.out
    have c0_p := hx.cell 0
    have c1_p := hx.cell 1
    have c2_p := hx.cell 2
    have c3_p := hx.cell 3
    have c4_p := hx.cell 4
    have c5_p := hx.cell 5
    have c6_p := hx.cell 6
    have c7_p := hx.cell 7
    have c8_p := hx.cell 8
    have l_p := hx.lt
    clear hx
    have hx := H74.out
    have c0_q := hx.cell 0
    have c1_q := hx.cell 1
    have c2_q := hx.cell 2
    have c3_q := hx.cell 3
    have c4_q := hx.cell 4
    have c5_q := hx.cell 5
    have c6_q := hx.cell 6
    have c7_q := hx.cell 7
    have c8_q := hx.cell 8
    have l_q := hx.lt
    clear hx
    have hx := H84.out
    have c0_s := hx.cell 0
    have c1_s := hx.cell 1
    have c2_s := hx.cell 2
    have c3_s := hx.cell 3
    have c4_s := hx.cell 4
    have c5_s := hx.cell 5
    have c6_s := hx.cell 6
    have c7_s := hx.cell 7
    have c8_s := hx.cell 8
    have l_s := hx.lt
    clear hx
    go_wp2_with (first | still_step | (with_reducible first | refine wpStill_nil ?_ | refine Flow.Both.mk ?_ ?_ | exact True.intro) | (with_reducible refine Flow.same_mk rfl rfl rfl ?_; go_simp; done) | (with_reducible exact Flow.same_un rfl rfl rfl))
    clear c0_p c1_p c2_p c3_p c4_p c5_p c6_p c7_p c8_p l_p
    clear c0_q c1_q c2_q c3_q c4_q c5_q c6_q c7_q c8_q l_q
    clear c0_s c1_s c2_s c3_s c4_s c5_s c6_s c7_s c8_s l_s
    go_at_call 28
    refine Calls.named fun wc hwc => ?_
    have hfc : Fr (fun _ => False) w4 wc := by rw [hwc]; (with_reducible repeat' (first | exact Fr.refl _ _ | apply Fr.alloc | apply Fr.drew | apply Fr.drewN | refine Fr.setCell ?_ ?_ _))
    have hp := HPT.out a1 a1 a3 c1 c1 c3 ma ma l wc (HF4.out.trans hfc (fun _ _ h => h)) HMA.out HNA.out HMA.out HNA.out (by have := HMAL.out; have := HMBL.out; omega) (by have := HMAL.out; have := HMBL.out; omega) (by have := HLL.out; omega) (HVT.out _ (HF4.out.trans hfc (fun _ _ h => h)))
    rw [HSE.out, ← HMAL.out, ← HLL.out] at hp
    refine hp.mono ?_
    clear hp
    rintro e w5 ⟨rfl, hf⟩
    have HF5 := hid ((HF4.out.trans hfc (fun _ _ h => h)).trans hf (fun _ _ h => h))
    have HX5 := hid ((HX4.out.fr hfc (fun h => h)).fr hf (fun h => h))
    have H75 := hid ((H74.out.fr hfc (fun h => h)).fr hf (fun h => h))
    have H85 := hid ((H84.out.fr hfc (fun h => h)).fr hf (fun h => h))
    clear hf hwc hfc HF4 HX4 H74 H84
    have hx := HX5.out
    have c0_p := hx.cell 0
    have c1_p := hx.cell 1
    have c2_p := hx.cell 2
    have c3_p := hx.cell 3
    have c4_p := hx.cell 4
    have c5_p := hx.cell 5
    have c6_p := hx.cell 6
    have c7_p := hx.cell 7
    have c8_p := hx.cell 8
    have l_p := hx.lt
    clear hx
    have hx := H75.out
    have c0_q := hx.cell 0
    have c1_q := hx.cell 1
    have c2_q := hx.cell 2
    have c3_q := hx.cell 3
    have c4_q := hx.cell 4
    have c5_q := hx.cell 5
    have c6_q := hx.cell 6
    have c7_q := hx.cell 7
    have c8_q := hx.cell 8
    have l_q := hx.lt
    clear hx
    have hx := H85.out
    have c0_s := hx.cell 0
    have c1_s := hx.cell 1
    have c2_s := hx.cell 2
    have c3_s := hx.cell 3
    have c4_s := hx.cell 4
    have c5_s := hx.cell 5
    have c6_s := hx.cell 6
    have c7_s := hx.cell 7
    have c8_s := hx.cell 8
    have l_s := hx.lt
    clear hx
    go_wp2_with (first | still_step | (with_reducible first | refine wpStill_nil ?_ | refine Flow.Both.mk ?_ ?_ | exact True.intro) | (with_reducible refine Flow.same_mk rfl rfl rfl ?_; go_simp; done) | (with_reducible exact Flow.same_un rfl rfl rfl))
    clear c0_p c1_p c2_p c3_p c4_p c5_p c6_p c7_p c8_p l_p
    clear c0_q c1_q c2_q c3_q c4_q c5_q c6_q c7_q c8_q l_q
    clear c0_s c1_s c2_s c3_s c4_s c5_s c6_s c7_s c8_s l_s
    go_at_call 29
    refine Calls.named fun wc hwc => ?_
    have hfc : Fr (fun _ => False) w5 wc := by rw [hwc]; (with_reducible repeat' (first | exact Fr.refl _ _ | apply Fr.alloc | apply Fr.drew | apply Fr.drewN | refine Fr.setCell ?_ ?_ _))
    have hp := HAK.out a1 a1 c1 c1 ma ma wc (HF5.out.trans hfc (fun _ _ h => h)) HMA.out HMA.out
    rw [alikeP_self, ← HMAL.out] at hp
    refine hp.mono ?_
    clear hp
    rintro e w6 ⟨rfl, hf⟩
    have HF6 := hid ((HF5.out.trans hfc (fun _ _ h => h)).trans hf (fun _ _ h => h))
    have HX6 := hid ((HX5.out.fr hfc (fun h => h)).fr hf (fun h => h))
    have H76 := hid ((H75.out.fr hfc (fun h => h)).fr hf (fun h => h))
    have H86 := hid ((H85.out.fr hfc (fun h => h)).fr hf (fun h => h))
    clear hf hwc hfc HF5 HX5 H75 H85
    have hx := HX6.out
    have c0_p := hx.cell 0
    have c1_p := hx.cell 1
    have c2_p := hx.cell 2
    have c3_p := hx.cell 3
    have c4_p := hx.cell 4
    have c5_p := hx.cell 5
    have c6_p := hx.cell 6
    have c7_p := hx.cell 7
    have c8_p := hx.cell 8
    have l_p := hx.lt
    clear hx
    have hx := H76.out
    have c0_q := hx.cell 0
    have c1_q := hx.cell 1
    have c2_q := hx.cell 2
    have c3_q := hx.cell 3
    have c4_q := hx.cell 4
    have c5_q := hx.cell 5
    have c6_q := hx.cell 6
    have c7_q := hx.cell 7
    have c8_q := hx.cell 8
    have l_q := hx.lt
    clear hx
    have hx := H86.out
    have c0_s := hx.cell 0
    have c1_s := hx.cell 1
    have c2_s := hx.cell 2
    have c3_s := hx.cell 3
    have c4_s := hx.cell 4
    have c5_s := hx.cell 5
    have c6_s := hx.cell 6
    have c7_s := hx.cell 7
    have c8_s := hx.cell 8
    have l_s := hx.lt
    clear hx
    go_wp2_with (first | still_step | (with_reducible first | refine wpStill_nil ?_ | refine Flow.Both.mk ?_ ?_ | exact True.intro) | (with_reducible refine Flow.same_mk rfl rfl rfl ?_; go_simp; done) | (with_reducible exact Flow.same_un rfl rfl rfl))
    clear c0_p c1_p c2_p c3_p c4_p c5_p c6_p c7_p c8_p l_p
    clear c0_q c1_q c2_q c3_q c4_q c5_q c6_q c7_q c8_q l_q
    clear c0_s c1_s c2_s c3_s c4_s c5_s c6_s c7_s c8_s l_s
    go_at_call 29
    refine Calls.named fun wc hwc => ?_
    have hfc : Fr (fun _ => False) w6 wc := by rw [hwc]; (with_reducible repeat' (first | exact Fr.refl _ _ | apply Fr.alloc | apply Fr.drew | apply Fr.drewN | refine Fr.setCell ?_ ?_ _))
    have hp := HAK.out a1 a2 c1 c2 ma mb wc (HF6.out.trans hfc (fun _ _ h => h)) HMA.out HMB.out
    rw [← HAKE.out, ← HMAL.out, ← HMBL.out] at hp
    refine hp.mono ?_
    clear hp
    rintro e w7 ⟨rfl, hf⟩
    have HF7 := hid ((HF6.out.trans hfc (fun _ _ h => h)).trans hf (fun _ _ h => h))
    have HX7 := hid ((HX6.out.fr hfc (fun h => h)).fr hf (fun h => h))
    have H77 := hid ((H76.out.fr hfc (fun h => h)).fr hf (fun h => h))
    have H87 := hid ((H86.out.fr hfc (fun h => h)).fr hf (fun h => h))
    clear hf hwc hfc HF6 HX6 H76 H86
    have hx := HX7.out
    have c0_p := hx.cell 0
    have c1_p := hx.cell 1
    have c2_p := hx.cell 2
    have c3_p := hx.cell 3
    have c4_p := hx.cell 4
    have c5_p := hx.cell 5
    have c6_p := hx.cell 6
    have c7_p := hx.cell 7
    have c8_p := hx.cell 8
    have l_p := hx.lt
    clear hx
    have hx := H77.out
    have c0_q := hx.cell 0
    have c1_q := hx.cell 1
    have c2_q := hx.cell 2
    have c3_q := hx.cell 3
    have c4_q := hx.cell 4
    have c5_q := hx.cell 5
    have c6_q := hx.cell 6
    have c7_q := hx.cell 7
    have c8_q := hx.cell 8
    have l_q := hx.lt
    clear hx
    have hx := H87.out
    have c0_s := hx.cell 0
    have c1_s := hx.cell 1
    have c2_s := hx.cell 2
    have c3_s := hx.cell 3
    have c4_s := hx.cell 4
    have c5_s := hx.cell 5
    have c6_s := hx.cell 6
    have c7_s := hx.cell 7
    have c8_s := hx.cell 8
    have l_s := hx.lt
    clear hx
    go_wp2_with (first | still_step | (with_reducible first | refine wpStill_nil ?_ | refine Flow.Both.mk ?_ ?_ | exact True.intro) | (with_reducible refine Flow.same_mk rfl rfl rfl ?_; go_simp; done) | (with_reducible exact Flow.same_un rfl rfl rfl))
    clear c0_p c1_p c2_p c3_p c4_p c5_p c6_p c7_p c8_p l_p
    clear c0_q c1_q c2_q c3_q c4_q c5_q c6_q c7_q c8_q l_q
    clear c0_s c1_s c2_s c3_s c4_s c5_s c6_s c7_s c8_s l_s
    go_at_call 29
    refine Calls.named fun wc hwc => ?_
    have hfc : Fr (fun _ => False) w7 wc := by rw [hwc]; (with_reducible repeat' (first | exact Fr.refl _ _ | apply Fr.alloc | apply Fr.drew | apply Fr.drewN | refine Fr.setCell ?_ ?_ _))
    have hp := HAK.out a2 a1 c2 c1 mb ma wc (HF7.out.trans hfc (fun _ _ h => h)) HMB.out HMA.out
    rw [alikeP_swap, ← HAKE.out, ← HMAL.out, ← HMBL.out] at hp
    refine hp.mono ?_
    clear hp
    rintro e w8 ⟨rfl, hf⟩
    have HF8 := hid ((HF7.out.trans hfc (fun _ _ h => h)).trans hf (fun _ _ h => h))
    have HX8 := hid ((HX7.out.fr hfc (fun h => h)).fr hf (fun h => h))
    have H78 := hid ((H77.out.fr hfc (fun h => h)).fr hf (fun h => h))
    have H88 := hid ((H87.out.fr hfc (fun h => h)).fr hf (fun h => h))
    clear hf hwc hfc HF7 HX7 H77 H87
    have hx := HX8.out
    have c0_p := hx.cell 0
    have c1_p := hx.cell 1
    have c2_p := hx.cell 2
    have c3_p := hx.cell 3
    have c4_p := hx.cell 4
    have c5_p := hx.cell 5
    have c6_p := hx.cell 6
    have c7_p := hx.cell 7
    have c8_p := hx.cell 8
    have l_p := hx.lt
    clear hx
    have hx := H78.out
    have c0_q := hx.cell 0
    have c1_q := hx.cell 1
    have c2_q := hx.cell 2
    have c3_q := hx.cell 3
    have c4_q := hx.cell 4
    have c5_q := hx.cell 5
    have c6_q := hx.cell 6
    have c7_q := hx.cell 7
    have c8_q := hx.cell 8
    have l_q := hx.lt
    clear hx
    have hx := H88.out
    have c0_s := hx.cell 0
    have c1_s := hx.cell 1
    have c2_s := hx.cell 2
    have c3_s := hx.cell 3
    have c4_s := hx.cell 4
    have c5_s := hx.cell 5
    have c6_s := hx.cell 6
    have c7_s := hx.cell 7
    have c8_s := hx.cell 8
    have l_s := hx.lt
    clear hx
    go_wp2_with (first | (at_builtin; refine wpList_append_Own _ rfl (.tmp 76) (.tmp 78) 27 rfl 41 i0 (.agg #[.int .i64 0, .int .i64 0]) 2 16 Try.underlying27 hi0 hz0 hz1 hz2 rfl (by decide) (fun _ => False) (fun k => k < w.heap.size) none 0 0 [] rfl ?own a3 LL c3 (dosC l) rfl ?vw ?one ?b1 ?b2 ?grow) | still_step | (with_reducible first | refine wpStill_nil ?_ | refine Flow.Both.mk ?_ ?_ | exact True.intro) | (with_reducible refine Flow.same_mk rfl rfl rfl ?_; go_simp; done) | (with_reducible exact Flow.same_un rfl rfl rfl))
    case own => exact OwnAt.nil _ _ _ _ _
    case vw => exact HV.out.fr (HF8.out.trans (show Fr (fun _ => False) w8 _ by (with_reducible repeat' (first | exact Fr.refl _ _ | apply Fr.alloc | apply Fr.drew | apply Fr.drewN | refine Fr.setCell ?_ ?_ _))) (fun _ _ h => h)) (fun _ _ h => h)
    case one => exact dosC_one _
    case b1 => unfold maxLen; omega
    case b2 => omega
    case grow =>
    intro ao3 cap3 w9 ho3 hf3
    (try simp only [Nat.zero_add, List.nil_append] at ho3)
    (try simp only [Nat.zero_add])
    have HM9 := hid (Blk.fr (S := fun _ => False) (show Blk _ w8.heap.size #[.slice ao QL co, .slice aa AL ac, .int .i64 (words : Int), .int .i64 (locks : Int), .slice a1 MA c1, .slice a2 MB c2, .int .i64 room, .int .i64 window, .slice none 0 0] 69 by (repeat (first | exact Blk.new' (by simp) | with_reducible apply Blk.drew | with_reducible apply Blk.alloc))) hf3 (fun h => h))
    have HE9 := hid ((show Fr (fun _ => False) w8 _ by (with_reducible repeat' (first | exact Fr.refl _ _ | apply Fr.alloc | apply Fr.drew | apply Fr.drewN | refine Fr.setCell ?_ ?_ _))).trans hf3 (fun _ _ h => h))
    have HO9 := hid (ho3.mono (R2 := fun z => w8.heap.size < z) (fun z _ h => by (try simp at h); omega))
    clear ho3 hf3
    clear c0_p c1_p c2_p c3_p c4_p c5_p c6_p c7_p c8_p l_p
    clear c0_q c1_q c2_q c3_q c4_q c5_q c6_q c7_q c8_q l_q
    clear c0_s c1_s c2_s c3_s c4_s c5_s c6_s c7_s c8_s l_s
    have HX9 := hid (HX8.out.fr HE9.out (fun h => h))
    have hx := HM9.out
    have c0_m := hx.cell 0
    have c1_m := hx.cell 1
    have c2_m := hx.cell 2
    have c3_m := hx.cell 3
    have c4_m := hx.cell 4
    have c5_m := hx.cell 5
    have c6_m := hx.cell 6
    have c7_m := hx.cell 7
    have c8_m := hx.cell 8
    have l_m := hx.lt
    clear hx
    go_wp2_with (first | ((with_reducible apply wpList_setA (b := w8.heap.size) (o := 8) (C := #[.slice ao QL co, .slice aa AL ac, .int .i64 (words : Int), .int .i64 (locks : Int), .slice a1 MA c1, .slice a2 MB c2, .int .i64 room, .int .i64 window, .slice none 0 0]) (v := .slice ao3 LL cap3) (T := 69)); (case zcx => rfl); (case zcy => rfl); (case zcv => rfl); (case zc1 => rfl); (case zcn => simp); (case zci => exact szDOS); (case zcb => exact HM9.out); intro w10 hb4 hf4 hs4; have hx4 : Blk w10 w8.heap.size #[.slice ao QL co, .slice aa AL ac, .int .i64 (words : Int), .int .i64 (locks : Int), .slice a1 MA c1, .slice a2 MB c2, .int .i64 room, .int .i64 window, .slice ao3 LL cap3] 69 := hb4; have c0_m := hx4.cell 0; have c1_m := hx4.cell 1; have c2_m := hx4.cell 2; have c3_m := hx4.cell 3; have c4_m := hx4.cell 4; have c5_m := hx4.cell 5; have c6_m := hx4.cell 6; have c7_m := hx4.cell 7; have c8_m := hx4.cell 8; have l_m := hx4.lt; have HM10 := hid hx4; clear hx4; have HE10 := hid hf4; clear hb4 hf4 hs4) | (at_builtin; refine wpList_append_Own _ rfl (.tmp 82) (.tmp 83) 27 rfl 41 i0 (.agg #[.int .i64 0, .int .i64 0]) 2 16 Try.underlying27 hi0 hz0 hz1 hz2 rfl (by decide) (fun z => w8.heap.size < z) (fun k => k < w.heap.size) ao3 LL cap3 (dosC l) rfl ?own a4 LM c4 (dosC more) rfl ?vw ?one ?b1 ?b2 ?grow) | still_step | (with_reducible first | refine wpStill_nil ?_ | refine Flow.Both.mk ?_ ?_ | exact True.intro) | (with_reducible refine Flow.same_mk rfl rfl rfl ?_; go_simp; done) | (with_reducible exact Flow.same_un rfl rfl rfl))
    case own => exact (HO9.out.fr HE10.out (fun z hz e => by have h' : w8.heap.size < z := hz; have e' : z = w8.heap.size := e; omega)).fr (S := fun _ => False) (show Fr (fun _ => False) w10 _ by (with_reducible repeat' (first | exact Fr.refl _ _ | apply Fr.alloc | apply Fr.drew | apply Fr.drewN | refine Fr.setCell ?_ ?_ _))) (fun _ _ h => h)
    case vw => exact HU.out.fr (((HF8.out.trans HE9.out (fun _ _ h => h)).trans HE10.out (fun z hz e => by have e' : z = w8.heap.size := e; have := HF8.out.size; omega)).trans (show Fr (fun _ => False) w10 _ by (with_reducible repeat' (first | exact Fr.refl _ _ | apply Fr.alloc | apply Fr.drew | apply Fr.drewN | refine Fr.setCell ?_ ?_ _))) (fun _ _ h => h)) (fun _ _ h => h)
    case one => exact dosC_one _
    case b1 => unfold maxLen; omega
    case b2 => omega
    case grow =>
    intro ao4 cap4 w11 ho4 hf4
    have HM11 := hid ((HM10.out.fr (S := fun _ => False) (show Fr (fun _ => False) w10 _ by (with_reducible repeat' (first | exact Fr.refl _ _ | apply Fr.alloc | apply Fr.drew | apply Fr.drewN | refine Fr.setCell ?_ ?_ _))) (fun h => h)).fr hf4 (fun h => by have h' : w8.heap.size < w8.heap.size := h; omega))
    have HF11 := hid ((((HF8.out.trans HE9.out (fun _ _ h => h)).trans HE10.out (fun z hz e => by have e' : z = w8.heap.size := e; have := HF8.out.size; omega)).trans (show Fr (fun _ => False) w10 _ by (with_reducible repeat' (first | exact Fr.refl _ _ | apply Fr.alloc | apply Fr.drew | apply Fr.drewN | refine Fr.setCell ?_ ?_ _))) (fun _ _ h => h)).trans hf4 (fun z hz h => by have h' : w8.heap.size < z := h; have := HF8.out.size; omega))
    have HX11 := hid (((HX9.out.fr HE10.out (fun e => by have e' : w.heap.size = w8.heap.size := e; have := HX8.out.lt; omega)).fr (S := fun _ => False) (show Fr (fun _ => False) w10 _ by (with_reducible repeat' (first | exact Fr.refl _ _ | apply Fr.alloc | apply Fr.drew | apply Fr.drewN | refine Fr.setCell ?_ ?_ _))) (fun h => h)).fr hf4 (fun h => by have h' : w8.heap.size < w.heap.size := h; have := HX8.out.lt; omega))
    clear c0_m c1_m c2_m c3_m c4_m c5_m c6_m c7_m c8_m l_m
    have hv4 := ho4.vw.mono (R2 := fun z => w8.heap.size < z) (fun z h => by have := HE9.out.size; have := HE10.out.size; have h0 : w8.heap.size < w9.heap.size := HM9.out.lt; rcases h with h | h <;> omega)
    rw [← dosC_app] at hv4
    have HV4 := hid hv4
    clear ho4 hf4 hv4
    have hx := HM11.out
    have c0_m := hx.cell 0
    have c1_m := hx.cell 1
    have c2_m := hx.cell 2
    have c3_m := hx.cell 3
    have c4_m := hx.cell 4
    have c5_m := hx.cell 5
    have c6_m := hx.cell 6
    have c7_m := hx.cell 7
    have c8_m := hx.cell 8
    have l_m := hx.lt
    clear hx
    go_wp2_with (first | ((with_reducible apply wpList_setA (b := w8.heap.size) (o := 8) (C := #[.slice ao QL co, .slice aa AL ac, .int .i64 (words : Int), .int .i64 (locks : Int), .slice a1 MA c1, .slice a2 MB c2, .int .i64 room, .int .i64 window, .slice ao3 LL cap3]) (v := .slice ao4 (LL + LM) cap4) (T := 69)); (case zcx => rfl); (case zcy => rfl); (case zcv => rfl); (case zc1 => rfl); (case zcn => simp); (case zci => exact szDOS); (case zcb => exact HM11.out); intro w12 hb4 hf4 hs4; have hx4 : Blk w12 w8.heap.size #[.slice ao QL co, .slice aa AL ac, .int .i64 (words : Int), .int .i64 (locks : Int), .slice a1 MA c1, .slice a2 MB c2, .int .i64 room, .int .i64 window, .slice ao4 (LL + LM) cap4] 69 := hb4; have c0_m := hx4.cell 0; have c1_m := hx4.cell 1; have c2_m := hx4.cell 2; have c3_m := hx4.cell 3; have c4_m := hx4.cell 4; have c5_m := hx4.cell 5; have c6_m := hx4.cell 6; have c7_m := hx4.cell 7; have c8_m := hx4.cell 8; have l_m := hx4.lt; have HM12 := hid hx4; clear hx4; have HE12 := hid hf4; clear hb4 hf4 hs4) | still_step | (with_reducible first | refine wpStill_nil ?_ | refine Flow.Both.mk ?_ ?_ | exact True.intro) | (with_reducible refine Flow.same_mk rfl rfl rfl ?_; go_simp; done) | (with_reducible exact Flow.same_un rfl rfl rfl))
    clear c0_m c1_m c2_m c3_m c4_m c5_m c6_m c7_m c8_m l_m
    go_at_call 28
    refine Calls.named fun wc hwc => ?_
    have hfc : Fr (fun _ => False) w12 wc := by rw [hwc]; (with_reducible repeat' (first | exact Fr.refl _ _ | apply Fr.alloc | apply Fr.drew | apply Fr.drewN | refine Fr.setCell ?_ ?_ _))
    have hfw := (HF11.out.trans HE12.out (fun z hz e => by have e' : z = w8.heap.size := e; have := HF8.out.size; omega)).trans hfc (fun _ _ h => h)
    have hv5 := ((HV4.out.fr HE12.out (fun z hz e => by have h' : w8.heap.size < z := hz; have e' : z = w8.heap.size := e; omega)).fr hfc (fun _ _ h => h)).mono (R2 := fun _ => True) (fun _ _ => trivial)
    rw [HLL.out, HLM.out, ← List.length_append] at hv5
    have hp := HPT.out a1 a2 ao4 c1 c2 cap4 ma mb (l ++ more) wc hfw HMA.out HNA.out HMB.out HNB.out (by have := HMAL.out; omega) (by have := HMBL.out; omega) (by rw [List.length_append]; have := HLL.out; have := HLM.out; omega) hv5
    rw [← HPM.out, ← HMAL.out, ← HMBL.out, List.length_append, ← HLL.out, ← HLM.out] at hp
    refine hp.mono ?_
    clear hp hv5
    rintro e w13 ⟨rfl, hf⟩
    have HF13 := hid (hfw.trans hf (fun _ _ h => h))
    have hx13 := ((HX11.out.fr HE12.out (fun e => by have e' : w.heap.size = w8.heap.size := e; have := HX8.out.lt; omega)).fr hfc (fun h => h)).fr hf (fun h => h)
    have c8_p := hx13.cell 8
    have l_p := hx13.lt
    clear hx13 hf hfw hfc hwc
    have hfin := HFIN.out
    clear HFIN
    rcases hfin with ⟨h1, h2 | h2⟩ | ⟨h1, h2⟩
    · go_wp2_with (first | still_step | (with_reducible first | refine wpStill_nil ?_ | refine Flow.Both.mk ?_ ?_ | exact True.intro) | (with_reducible refine Flow.same_mk rfl rfl rfl ?_; go_simp; done) | (with_reducible exact Flow.same_un rfl rfl rfl))
      go_ret
      exact ⟨rfl, HF13.out⟩
    · by_cases h3 : PM < 0
      · go_wp2_with (first | still_step | (with_reducible first | refine wpStill_nil ?_ | refine Flow.Both.mk ?_ ?_ | exact True.intro) | (with_reducible refine Flow.same_mk rfl rfl rfl ?_; go_simp; done) | (with_reducible exact Flow.same_un rfl rfl rfl))
        go_ret
        exact ⟨rfl, HF13.out⟩
      · go_wp2_with (first | still_step | (with_reducible first | refine wpStill_nil ?_ | refine Flow.Both.mk ?_ ?_ | exact True.intro) | (with_reducible refine Flow.same_mk rfl rfl rfl ?_; go_simp; done) | (with_reducible exact Flow.same_un rfl rfl rfl))
        go_ret
        exact ⟨rfl, HF13.out⟩
    · have h3 : ¬ PA < 0 := by omega
      rw [h2]
      go_wp2_with (first | still_step | (with_reducible first | refine wpStill_nil ?_ | refine Flow.Both.mk ?_ ?_ | exact True.intro) | (with_reducible refine Flow.same_mk rfl rfl rfl ?_; go_simp; done) | (with_reducible exact Flow.same_un rfl rfl rfl))
      go_ret
      exact ⟨rfl, HF13.out⟩
end Go.Proofs.Ytbfeopakmjcapaa.Sp
