/-
  EraseNone: of a script without guesses all that can be done is left.
-/
import Derived.Test.YtbfeopakmjcapaaAwake30
import Derived.Test.YtbfeopakmjcapaaErP
import Derived.Test.YtbfeopakmjcapaaSmall30
set_option linter.unusedVariables false
namespace Go.Proofs.Ytbfeopakmjcapaa.Sp
open Go.RowKit Go.Proofs.Ytbfeopakmjcapaa.Seq Go.Proofs.Ytbfeopakmjcapaa.Tso
attribute [local irreducible] wpStill wpList Calls CallsIn

def someD (l : List (Int × Int)) : List (Int × Int) := l.filter fun d => d.1 != 2 && d.1 != 3
theorem someD_yes {l : List (Int × Int)} {k : Nat} (h : k < l.length) (h2 : l[k].1 ≠ 2) (h3 : l[k].1 ≠ 3) : someD (l.take (k + 1)) = someD (l.take k) ++ [l[k]] := by
  unfold someD
  rw [List.take_succ_eq_append_getElem h, List.filter_append]
  congr 1
  simp [h2, h3]
theorem someD_no {l : List (Int × Int)} {k : Nat} (h : k < l.length) (h2 : l[k].1 = 2 ∨ l[k].1 = 3) : someD (l.take (k + 1)) = someD (l.take k) := by
  unfold someD
  rw [List.take_succ_eq_append_getElem h, List.filter_append, show List.filter (fun d : Int × Int => d.1 != 2 && d.1 != 3) [l[k]] = [] from by rcases h2 with h2 | h2 <;> simp [h2], List.append_nil]
theorem someD_len (l : List (Int × Int)) : (someD l).length ≤ l.length := List.length_filter_le _ _
theorem someD_kinds (l : List (Int × Int)) : ∀ d ∈ someD l, d.1 ≠ 2 ∧ d.1 ≠ 3 := by
  intro d hd
  have := (List.mem_filter.1 hd).2
  simpa using this

set_option linter.unusedSimpArgs false in
set_option maxHeartbeats 40000000 in
set_option maxRecDepth 100000 in
theorem none_walk (ao aa a1 a2 : Option Addr) (co ac cap1 cap2 : Nat) (qs : List ((Option Addr × Nat) × List Ins)) (al : List (Int × Int × Bool)) (words locks : Int) (mem : List Int) (l : List (Int × Int)) (w : World)
    (hc : Codes w (fun k => k < w.heap.size) ao qs) (ha : Vw w 3 (fun k => k < w.heap.size) aa al.length (areaC al)) (hal : al.length ≤ 9223372036854775807) (hql : qs.length ≤ 9223372036854775807) (hi : ∀ q ∈ qs, q.2.length ≤ 9223372036854775807)
    (hm : Vw w 1 (fun k => k < w.heap.size) a1 mem.length (ints mem)) (hmn : a1 = none → mem.length = 0) (hml : mem.length ≤ 9223372036854775807) (hv : Vw w 2 (fun k => k < w.heap.size) a2 l.length (dosC l)) (hll : l.length ≤ 9223372036854775807) :
    Calls Try.prog 6 #[.agg #[.slice ao qs.length co, .slice aa al.length ac, .int .i64 words, .int .i64 locks], .slice a1 mem.length cap1, .slice a2 l.length cap2] w fun e w' => e = .returned (.bool true) ∧ Fr (fun _ => False) w w' := by
  obtain ⟨i0, hi0, hz0, hz1, hz2⟩ := info_parts infoDO
  have HV := hid hv
  clear hv
  obtain ⟨LL, hLL⟩ : ∃ LL, LL = l.length := ⟨_, rfl⟩
  have HLL := hid hLL
  rw [← hLL] at hll ⊢
  clear hLL
  have HC := hid hc
  have HA := hid ha
  have HM := hid hm
  have HMN := hid hmn
  have HI := hid hi
  have hqal := hid (And.intro hql hal)
  clear hc ha hm hmn hi hql hal
  obtain ⟨QL, hQL⟩ : ∃ QL, QL = qs.length := ⟨_, rfl⟩
  have HQL := hid hQL
  rw [← hQL]
  obtain ⟨AL, hAL⟩ : ∃ AL, AL = al.length := ⟨_, rfl⟩
  have HAL := hid hAL
  rw [← hAL]
  obtain ⟨ML, hML⟩ : ∃ ML, ML = mem.length := ⟨_, rfl⟩
  have HML := hid hML
  rw [← hML] at hml ⊢
  clear hQL hAL hML
  have HX := hid (Blk.new w #[.slice ao QL co, .slice aa AL ac, .int .i64 words, .int .i64 locks] 25)
  go_enter Try.func6, Try.ntmps6
  go_wp2_with (first | fail | still_step | (with_reducible refine wpStill_nil ?_) | (with_reducible refine Flow.Both.mk ?_ ?_) | (with_reducible exact True.intro) | (with_reducible refine Flow.same_mk rfl rfl rfl ?_; go_simp; done) | (with_reducible exact Flow.same_un rfl rfl rfl) | (refine Flow.region_still mixed ?hB ?_; (case hB => decide +kernel)))
  go_at_call 19
  refine Calls.named fun wc hwc => ?_
  have hfc : Fr (fun _ => False) w wc := by rw [hwc]; (repeat' (first | with_reducible exact Fr.refl _ _ | with_reducible apply Fr.alloc | with_reducible apply Fr.drew | with_reducible apply Fr.drewN | (with_reducible refine Fr.setCell ?_ ?_ _)))
  have hxc : Blk wc w.heap.size #[.slice ao QL co, .slice aa AL ac, .int .i64 words, .int .i64 locks] 25 := by rw [hwc]; (repeat (first | exact HX.out | with_reducible apply Blk.drew | with_reducible apply Blk.alloc))
  refine (awake30_true _).mono ?_
  rintro e w1 ⟨rfl, hf1⟩
  have HF1 := hid (hfc.trans hf1 (fun _ _ h => h))
  have hx1 := hxc.fr hf1 (fun h => h)
  have c0_i := Blk.cell hx1 0
  have f0_i := Blk.free hx1 0
  have c1_i := Blk.cell hx1 1
  have f1_i := Blk.free hx1 1
  have c2_i := Blk.cell hx1 2
  have f2_i := Blk.free hx1 2
  have c3_i := Blk.cell hx1 3
  have f3_i := Blk.free hx1 3
  have l_i := Blk.lt hx1
  have HX1 := hid hx1
  have HC1 := hid (HC.out.fr HF1.out (fun _ _ h => h))
  have HA1 := hid (HA.out.fr HF1.out (fun _ _ h => h))
  clear hf1 HX hx1 hwc hfc hxc
  go_wp2_with (first | fail | still_step | (with_reducible refine wpStill_nil ?_) | (with_reducible refine Flow.Both.mk ?_ ?_) | (with_reducible exact True.intro) | (with_reducible refine Flow.same_mk rfl rfl rfl ?_; go_simp; done) | (with_reducible exact Flow.same_un rfl rfl rfl) | (refine Flow.region_still mixed ?hB ?_; (case hB => decide +kernel)))
  go_at_call 20
  rw [HQL.out, HAL.out]
  refine (small30_is _ _ ao aa co ac qs al words locks w1 HC1.out HA1.out hqal.out.2 hqal.out.1 HI.out).mono ?_
  rintro e w2 ⟨few, rfl, hfew, hf2⟩
  have HFEW := hid hfew
  have HF2 := hid (HF1.out.trans hf2 (fun _ _ h => h))
  have hx2 := HX1.out.fr hf2 (fun h => h)
  clear c0_i f0_i c1_i f1_i c2_i f2_i c3_i f3_i l_i
  have c0_i := Blk.cell hx2 0
  have f0_i := Blk.free hx2 0
  have c1_i := Blk.cell hx2 1
  have f1_i := Blk.free hx2 1
  have c2_i := Blk.cell hx2 2
  have f2_i := Blk.free hx2 2
  have c3_i := Blk.cell hx2 3
  have f3_i := Blk.free hx2 3
  have l_i := Blk.lt hx2
  clear hf2 hfew HX1 hx2 HF1 HC1 HA1
  cases few with
  | false =>
    go_wp2_with (first | fail | still_step | (with_reducible refine wpStill_nil ?_) | (with_reducible refine Flow.Both.mk ?_ ?_) | (with_reducible exact True.intro) | (with_reducible refine Flow.same_mk rfl rfl rfl ?_; go_simp; done) | (with_reducible exact Flow.same_un rfl rfl rfl) | (refine Flow.region_still mixed ?hB ?_; (case hB => decide +kernel)))
    go_ret
    exact ⟨rfl, HF2.out⟩
  | true =>
    obtain ⟨hg, hwd, hln⟩ := HFEW.out rfl
    have hql4 : qs.length ≤ 4 := hg.1
    by_cases hm3 : 300 < ML
    · go_wp2_with (first | fail | still_step | (with_reducible refine wpStill_nil ?_) | (with_reducible refine Flow.Both.mk ?_ ?_) | (with_reducible exact True.intro) | (with_reducible refine Flow.same_mk rfl rfl rfl ?_; go_simp; done) | (with_reducible exact Flow.same_un rfl rfl rfl) | (refine Flow.region_still mixed ?hB ?_; (case hB => decide +kernel)))
      go_ret
      exact ⟨rfl, HF2.out⟩
    by_cases hl6 : 100 < LL
    · go_wp2_with (first | fail | still_step | (with_reducible refine wpStill_nil ?_) | (with_reducible refine Flow.Both.mk ?_ ?_) | (with_reducible exact True.intro) | (with_reducible refine Flow.same_mk rfl rfl rfl ?_; go_simp; done) | (with_reducible exact Flow.same_un rfl rfl rfl) | (refine Flow.region_still mixed ?hB ?_; (case hB => decide +kernel)))
      go_ret
      exact ⟨rfl, HF2.out⟩
    go_wp2_with (first | fail | still_step | (with_reducible refine wpStill_nil ?_) | (with_reducible refine Flow.Both.mk ?_ ?_) | (with_reducible exact True.intro) | (with_reducible refine Flow.same_mk rfl rfl rfl ?_; go_simp; done) | (with_reducible exact Flow.same_un rfl rfl rfl) | (refine Flow.region_still mixed ?hB ?_; (case hB => decide +kernel)))
    go_loopw [9, 10] (fun out i wr => ∃ (k : Nat) (a : Option Addr) (c : Nat), k ≤ LL ∧ i = .int .i64 k ∧ out = .slice a (someD (l.take k)).length c ∧ OwnAt wr 41 2 (fun z => w2.heap.size ≤ z) a (someD (l.take k)).length c (dosC (someD (l.take k))) ∧ Fr (fun _ => False) w2 wr) (fun _ i _ => LL - (intOf i).toNat)
    case atStart => exact ⟨0, none, 0, Nat.zero_le _, rfl, rfl, OwnAt.nil _ _ _ _ _, Fr.refl _ _⟩
    case round =>
      obtain ⟨k, a, c, hk, rfl, rfl, ho, hf⟩ := hrel
      have HO := hid ho
      have HF := hid hf
      clear ho hf
      by_cases hlt : k < LL
      · have hkl : k < l.length := by have := HLL.out; omega
        obtain ⟨r0, off0, rfl, hr0, hcell⟩ := (HV.out.fr (HF2.out.trans HF.out (fun _ _ h => h)) (fun _ _ h => h)).cell (dosC_ne hkl)
        have d0 : wr.cell? ⟨r0, off0 + k * 2, none⟩ = some (.int .i64 l[k].1) := hcell (k * 2) _ (dosC_get l k hkl).1
        have d1 : wr.cell? ⟨r0, off0 + k * 2 + 1, none⟩ = some (.int .i64 l[k].2) := hcell (k * 2 + 1) _ (dosC_get l k hkl).2
        have HY := hid (fun h2 h3 => someD_yes hkl h2 h3)
        have HN := hid (fun h2 => someD_no hkl h2)
        have hlt2 : ((k : Nat) : Int) < (LL : Nat) := by omega
        have hsl : (someD (l.take k)).length ≤ k := Nat.le_trans (someD_len _) (by rw [List.length_take]; omega)
        clear hcell
        generalize l[k] = d at *
        obtain ⟨kind, who⟩ := d
        dsimp only at d0 d1 HY HN
        obtain ⟨S, hS⟩ : ∃ S, S = someD (l.take k) := ⟨_, rfl⟩
        rw [← hS] at HO HY HN hsl ⊢
        obtain ⟨SL, hSL⟩ : ∃ SL, SL = S.length := ⟨_, rfl⟩
        have HSL := hid hSL
        rw [← hSL] at HO hsl ⊢
        clear hS hSL
        by_cases hk2 : kind = 2
        · subst hk2
          have HN2 := hid (HN.out (.inl rfl))
          clear HY HN
          go_wp2_with (first | fail | still_step | (with_reducible refine wpStill_nil ?_) | (with_reducible refine Flow.Both.mk ?_ ?_) | (with_reducible exact True.intro) | (with_reducible refine Flow.same_mk rfl rfl rfl ?_; go_simp; done) | (with_reducible exact Flow.same_un rfl rfl rfl) | (refine Flow.region_still mixed ?hB ?_; (case hB => decide +kernel)))
          go_roundw
          case rel => exact ⟨k + 1, a, c, by omega, by go_num, by rw [HN2.out, ← HSL.out], by rw [HN2.out, ← HSL.out]; exact HO.out.fr (S := fun _ => False) (by (repeat' (first | with_reducible exact Fr.refl _ _ | with_reducible apply Fr.alloc | with_reducible apply Fr.drew | with_reducible apply Fr.drewN | (with_reducible refine Fr.setCell ?_ ?_ _)))) (fun _ _ h => h), HF.out.trans (show Fr (fun _ => False) wr _ by (repeat' (first | with_reducible exact Fr.refl _ _ | with_reducible apply Fr.alloc | with_reducible apply Fr.drew | with_reducible apply Fr.drewN | (with_reducible refine Fr.setCell ?_ ?_ _)))) (fun _ _ h => h)⟩
          case measure => simp [intOf]; omega
        by_cases hk3 : kind = 3
        · subst hk3
          have HN2 := hid (HN.out (.inr rfl))
          clear HY HN
          go_wp2_with (first | fail | still_step | (with_reducible refine wpStill_nil ?_) | (with_reducible refine Flow.Both.mk ?_ ?_) | (with_reducible exact True.intro) | (with_reducible refine Flow.same_mk rfl rfl rfl ?_; go_simp; done) | (with_reducible exact Flow.same_un rfl rfl rfl) | (refine Flow.region_still mixed ?hB ?_; (case hB => decide +kernel)))
          go_roundw
          case rel => exact ⟨k + 1, a, c, by omega, by go_num, by rw [HN2.out, ← HSL.out], by rw [HN2.out, ← HSL.out]; exact HO.out.fr (S := fun _ => False) (by (repeat' (first | with_reducible exact Fr.refl _ _ | with_reducible apply Fr.alloc | with_reducible apply Fr.drew | with_reducible apply Fr.drewN | (with_reducible refine Fr.setCell ?_ ?_ _)))) (fun _ _ h => h), HF.out.trans (show Fr (fun _ => False) wr _ by (repeat' (first | with_reducible exact Fr.refl _ _ | with_reducible apply Fr.alloc | with_reducible apply Fr.drew | with_reducible apply Fr.drewN | (with_reducible refine Fr.setCell ?_ ?_ _)))) (fun _ _ h => h)⟩
          case measure => simp [intOf]; omega
        · have HY2 := hid (HY.out hk2 hk3)
          have he2 : (kind != 2) = true := by simpa using hk2
          have he3 : (kind != 3) = true := by simpa using hk3
          clear HY HN
          go_wp2_with (first | (at_builtin; refine wpList_append_Own _ rfl (.tmp 52) (.tmp 57) 27 rfl 41 i0 (.agg #[.int .i64 0, .int .i64 0]) 2 16 Try.underlying27 hi0 hz0 hz1 hz2 rfl (by decide) (fun z => w2.heap.size ≤ z) (fun _ => True) a SL c (dosC S) rfl ?own (some ⟨wr.heap.size, 0, none⟩) 1 1 (dosC [(kind, who)]) rfl ?vw ?one ?b1 ?b2 ?grow) | still_step | (with_reducible refine wpStill_nil ?_) | (with_reducible refine Flow.Both.mk ?_ ?_) | (with_reducible exact True.intro) | (with_reducible refine Flow.same_mk rfl rfl rfl ?_; go_simp; done) | (with_reducible exact Flow.same_un rfl rfl rfl) | (refine Flow.region_still mixed ?hB ?_; (case hB => decide +kernel)))
          case own => exact HO.out.fr (S := fun _ => False) (by (repeat' (first | with_reducible exact Fr.refl _ _ | with_reducible apply Fr.alloc | with_reducible apply Fr.drew | with_reducible apply Fr.drewN | (with_reducible refine Fr.setCell ?_ ?_ _)))) (fun _ _ h => h)
          case vw => first | exact Vw.of_blk (sz := 2) (n := 1) (R := fun _ => True) (Blk.new wr #[.int .i64 kind, .int .i64 who] 41) trivial rfl | exact Vw.of_blk (sz := 2) (n := 1) (R := fun _ => True) (Blk.drew (Blk.new wr #[.int .i64 kind, .int .i64 who] 41)) trivial rfl
          case one => intro u hu; simp [dosC] at hu; rcases hu with rfl | rfl <;> rfl
          case b1 => unfold maxLen; omega
          case b2 => omega
          case grow =>
            intro ao' cap' w5 ho5 hf5
            have hfw : Fr (fun _ => False) w2 w5 := (HF.out.trans (show Fr (fun _ => False) wr _ by (repeat' (first | with_reducible exact Fr.refl _ _ | with_reducible apply Fr.alloc | with_reducible apply Fr.drew | with_reducible apply Fr.drewN | (with_reducible refine Fr.setCell ?_ ?_ _)))) (fun _ _ h => h)).trans hf5 (fun z hz h => by have h' : w2.heap.size ≤ z := h; omega)
            have hwr := HF.out.size
            have HO5 := hid (ho5.mono (R2 := fun z => w2.heap.size ≤ z) (fun z _ h => by
              rcases h with h | h
              · exact h
              · (try simp at h); omega))
            have HF5 := hid hfw
            clear ho5 hf5 hfw HO HF hwr d0 d1
            go_wp2_with (first | fail | still_step | (with_reducible refine wpStill_nil ?_) | (with_reducible refine Flow.Both.mk ?_ ?_) | (with_reducible exact True.intro) | (with_reducible refine Flow.same_mk rfl rfl rfl ?_; go_simp; done) | (with_reducible exact Flow.same_un rfl rfl rfl) | (refine Flow.region_still mixed ?hB ?_; (case hB => decide +kernel)))
            go_roundw
            case rel =>
              have e1 : (S ++ [(kind, who)]).length = SL + 1 := by rw [List.length_append, ← HSL.out]; rfl
              refine ⟨k + 1, ao', cap', by omega, by go_num, by rw [HY2.out, e1], ?_, HF5.out.trans (show Fr (fun _ => False) w5 _ by (repeat' (first | with_reducible exact Fr.refl _ _ | with_reducible apply Fr.alloc | with_reducible apply Fr.drew | with_reducible apply Fr.drewN | (with_reducible refine Fr.setCell ?_ ?_ _)))) (fun _ _ h => h)⟩
              rw [HY2.out, e1, dosC_app]
              exact HO5.out.fr (S := fun _ => False) (show Fr (fun _ => False) w5 _ by (repeat' (first | with_reducible exact Fr.refl _ _ | with_reducible apply Fr.alloc | with_reducible apply Fr.drew | with_reducible apply Fr.drewN | (with_reducible refine Fr.setCell ?_ ?_ _)))) (fun _ _ h => h)
            case measure => simp [intOf]; omega
      · obtain rfl : LL = k := by omega
        have htk : l.take LL = l := List.take_of_length_le (by rw [← HLL.out]; exact Nat.le_refl _)
        have hsl := someD_len l
        have hsk := someD_kinds l
        rw [htk] at HO ⊢
        obtain ⟨S, hS⟩ : ∃ S, S = someD l := ⟨_, rfl⟩
        rw [← hS] at HO hsl hsk ⊢
        have hsl2 : S.length ≤ 100 := by have := HLL.out; omega
        obtain ⟨SL, hSL⟩ : ∃ SL, SL = S.length := ⟨_, rfl⟩
        have HSL := hid hSL
        have HSK := hid hsk
        rw [← hSL] at HO hsl2 ⊢
        clear hS hSL hsl htk hsk
        obtain ⟨words, rfl⟩ : ∃ n : Nat, words = n := ⟨words.toNat, by have := hg.2.2.2.1; omega⟩
        obtain ⟨locks, rfl⟩ : ∃ n : Nat, locks = n := ⟨locks.toNat, by have := hg.2.1; omega⟩
        have hlk8 : locks ≤ 8 := by have := hg.2.2.1; omega
        have HG := hid hg
        have HLN := hid hln
        clear hg hln HFEW
        obtain ⟨s0, hs0⟩ : ∃ x, x = startS (qs.map (·.2)) words mem locks 2 3 := ⟨_, rfl⟩
        have hft : Fits s0 0 := by
          rw [hs0]
          refine start_fits (fun c hc i hi => ?_) (by omega) (by omega) (by omega)
          obtain ⟨q, hq, rfl⟩ := List.mem_map.1 hc
          exact HG.out.2.2.2.2.2 q hq i hi
        have hB := bare_none (s := s0) (by rw [hs0]; exact noG_start _ _ _ _ _ _) HSK.out
        have hK := runs_none S (s := s0) (by rw [hs0]; exact noG_start _ _ _ _ _ _) HSK.out
        have hrl := runs_len S s0
        obtain ⟨B, hBB⟩ : ∃ B, B = (runs s0 S).2.map projD := ⟨_, rfl⟩
        have hBK : ∀ d ∈ B, d.1 = 0 ∨ d.1 = 1 := by
          intro d hd
          rw [hBB] at hd
          obtain ⟨x, hx, rfl⟩ := List.mem_map.1 hd
          exact (hK x hx).1
        have hBL : B.length ≤ 100 := by rw [hBB, List.length_map]; have := HSL.out; omega
        rw [← hBB] at hB
        have HB := hid hB
        have HBB := hid hBB
        have HBK := hid hBK
        have HFT := hid hft
        have HS0 := hid hs0
        clear hft hB hK hrl hBK hs0 hBB HSK
        have HCI := hid (⟨c0_i, c1_i, c2_i, c3_i, l_i⟩ : _ ∧ _ ∧ _ ∧ _ ∧ _)
        clear c0_i f0_i c1_i f1_i c2_i f2_i c3_i f3_i l_i
        have c0_i := HF.out.cell HCI.out.1 (fun h => h)
        have c1_i := HF.out.cell HCI.out.2.1 (fun h => h)
        have c2_i := HF.out.cell HCI.out.2.2.1 (fun h => h)
        have c3_i := HF.out.cell HCI.out.2.2.2.1 (fun h => h)
        have l_i := Nat.lt_of_lt_of_le HCI.out.2.2.2.2 HF.out.size
        go_wp2_with (first | fail | still_step | (with_reducible refine wpStill_nil ?_) | (with_reducible refine Flow.Both.mk ?_ ?_) | (with_reducible exact True.intro) | (with_reducible refine Flow.same_mk rfl rfl rfl ?_; go_simp; done) | (with_reducible exact Flow.same_un rfl rfl rfl) | (refine Flow.region_still mixed ?hB ?_; (case hB => decide +kernel)))
        go_at_call 21
        refine Calls.named fun wc hwc => ?_
        have hfc : Fr (fun _ => False) wr wc := by rw [hwc]; (repeat' (first | with_reducible exact Fr.refl _ _ | with_reducible apply Fr.alloc | with_reducible apply Fr.drew | with_reducible apply Fr.drewN | (with_reducible refine Fr.setCell ?_ ?_ _)))
        have hbz : Blk wc wr.heap.size #[.int .i64 2, .int .i64 3] 35 := by rw [hwc]; exact Blk.new _ _ _
        have HFC := hid ((HF2.out.trans HF.out (fun _ _ h => h)).trans hfc (fun _ _ h => h))
        have HFC2 := hid (HF.out.trans hfc (fun _ _ h => h))
        have hvs := (HO.out.fr (S := fun _ => False) hfc (fun _ _ h => h)).vw.mono (R2 := fun _ => True) (fun _ _ => trivial)
        have hli := list_is (fun k => k < w.heap.size) (fun k => k < w.heap.size) ao a1 aa a co cap1 AL ac c qs words locks 2 3 mem S wc (HC.out.fr HFC.out (fun _ _ h => h)) (HM.out.fr HFC.out (fun _ _ h => h)) HMN.out (by omega) (by have := HML.out; omega) (fun q hq => by have := HLN.out q hq; omega) (by omega) hlk8 (by omega) (by omega) (by rw [← HS0.out]; exact HFT.out) (by rw [← HSL.out]; omega) (by rw [← HSL.out]; exact hvs)
        rw [← HS0.out, HB.out, ← HSL.out, ← HQL.out, ← HML.out] at hli
        refine hli.mono ?_
        clear hli hvs hwc
        rintro e w5 ⟨a5, c5, rfl, ho5, hf5⟩
        have HO5 := hid (ho5.vw.mono (R2 := fun _ => True) (fun _ _ => trivial))
        have HF5 := hid (HFC2.out.trans hf5 (fun _ _ h => h))
        have HV5 := hid (((HO.out.fr (S := fun _ => False) hfc (fun _ _ h => h)).fr hf5 (fun _ _ h => h)).vw.mono (R2 := fun _ => True) (fun _ _ => trivial))
        have hz5 := hbz.fr hf5 (fun h => h)
        have c0_z := Blk.cell hz5 0
        have f0_z := Blk.free hz5 0
        have c1_z := Blk.cell hz5 1
        have f1_z := Blk.free hz5 1
        have l_z := Blk.lt hz5
        clear c0_i c1_i c2_i c3_i l_i ho5 hf5 hfc hbz hz5 HFC HFC2 HO HF
        have c0_i := HF5.out.cell HCI.out.1 (fun h => h)
        have c1_i := HF5.out.cell HCI.out.2.1 (fun h => h)
        have c2_i := HF5.out.cell HCI.out.2.2.1 (fun h => h)
        have c3_i := HF5.out.cell HCI.out.2.2.2.1 (fun h => h)
        have l_i := Nat.lt_of_lt_of_le HCI.out.2.2.2.2 HF5.out.size
        go_wp2_with (first | fail | still_step | (with_reducible refine wpStill_nil ?_) | (with_reducible refine Flow.Both.mk ?_ ?_) | (with_reducible exact True.intro) | (with_reducible refine Flow.same_mk rfl rfl rfl ?_; go_simp; done) | (with_reducible exact Flow.same_un rfl rfl rfl) | (refine Flow.region_still mixed ?hB ?_; (case hB => decide +kernel)))
        go_at_call 22
        refine Calls.named fun wc hwc => ?_
        have hfc : Fr (fun _ => False) w5 wc := by rw [hwc]; (repeat' (first | with_reducible exact Fr.refl _ _ | with_reducible apply Fr.alloc | with_reducible apply Fr.drew | with_reducible apply Fr.drewN | (with_reducible refine Fr.setCell ?_ ?_ _)))
        have HFC := hid ((HF2.out.trans HF5.out (fun _ _ h => h)).trans hfc (fun _ _ h => h))
        have hvs := HV5.out.fr (S := fun _ => False) hfc (fun _ _ h => h)
        have hli := legal_is (fun k => k < w.heap.size) (fun k => k < w.heap.size) ao a1 aa a co cap1 AL ac c qs words locks 2 3 mem S wc (HC.out.fr HFC.out (fun _ _ h => h)) (HM.out.fr HFC.out (fun _ _ h => h)) HMN.out (by omega) (by have := HML.out; omega) (fun q hq => by have := HLN.out q hq; omega) (by omega) hlk8 (by omega) (by omega) (by rw [← HS0.out]; exact HFT.out) (by rw [← HSL.out]; omega) (by rw [← HSL.out]; exact hvs)
        rw [← HS0.out, ← HBB.out, ← HSL.out, ← HQL.out, ← HML.out] at hli
        refine hli.mono ?_
        clear hli hvs hwc
        rintro e w6 ⟨a6, c6, rfl, ho6, hf6⟩
        have hf56 := hfc.trans hf6 (fun _ _ h => h)
        have HW5 := hid (HO5.out.fr hf56 (fun _ _ h => h))
        have HW6 := hid (ho6.vw.mono (R2 := fun _ => True) (fun _ _ => trivial))
        have HF6 := hid ((HF2.out.trans HF5.out (fun _ _ h => h)).trans hf56 (fun _ _ h => h))
        clear c0_i c1_i c2_i c3_i l_i c0_z f0_z c1_z f1_z l_z ho6 hf6 hfc hf56 HO5 HV5 HF5 HFC HCI HF2
        obtain ⟨BL, hBLe⟩ : ∃ BL, BL = B.length := ⟨_, rfl⟩
        have HBL := hid hBLe
        rw [← hBLe] at hBL HW5 HW6 ⊢
        clear hBLe
        go_wp2_with (first | fail | still_step | (with_reducible refine wpStill_nil ?_) | (with_reducible refine Flow.Both.mk ?_ ?_) | (with_reducible exact True.intro) | (with_reducible refine Flow.same_mk rfl rfl rfl ?_; go_simp; done) | (with_reducible exact Flow.same_un rfl rfl rfl) | (refine Flow.region_still mixed ?hB ?_; (case hB => decide +kernel)))
        go_loopw [14] (fun i wr => ∃ k : Nat, k ≤ BL ∧ i = .int .i64 k ∧ Fr (fun _ => False) w6 wr) (fun i _ => BL - (intOf i).toNat)
        case atStart => exact ⟨0, Nat.zero_le _, rfl, Fr.refl _ _⟩
        case round =>
          obtain ⟨k, hk, rfl, hf⟩ := hrel
          have HF := hid hf
          clear hf
          by_cases hlt : k < BL
          · have hkl : k < B.length := by have := HBL.out; omega
            obtain ⟨r0, off0, rfl, hr0, hcell⟩ := (HW6.out.fr HF.out (fun _ _ h => h)).cell (dosC_ne hkl)
            have d0 : wr.cell? ⟨r0, off0 + k * 2, none⟩ = some (.int .i64 B[k].1) := hcell (k * 2) _ (dosC_get B k hkl).1
            have hk01 := HBK.out B[k] (List.getElem_mem hkl)
            have hlt2 : ((k : Nat) : Int) < (BL : Nat) := by omega
            clear hcell
            generalize B[k] = d at *
            obtain ⟨kind, who⟩ := d
            dsimp only at d0 hk01
            rcases hk01 with rfl | rfl
            · go_wp2_with (first | fail | still_step | (with_reducible refine wpStill_nil ?_) | (with_reducible refine Flow.Both.mk ?_ ?_) | (with_reducible exact True.intro) | (with_reducible refine Flow.same_mk rfl rfl rfl ?_; go_simp; done) | (with_reducible exact Flow.same_un rfl rfl rfl) | (refine Flow.region_still mixed ?hB ?_; (case hB => decide +kernel)))
              go_roundw
              case rel => exact ⟨k + 1, by omega, by go_num, HF.out.trans (show Fr (fun _ => False) wr _ by (repeat' (first | with_reducible exact Fr.refl _ _ | with_reducible apply Fr.alloc | with_reducible apply Fr.drew | with_reducible apply Fr.drewN | (with_reducible refine Fr.setCell ?_ ?_ _)))) (fun _ _ h => h)⟩
              case measure => simp [intOf]; omega
            · go_wp2_with (first | fail | still_step | (with_reducible refine wpStill_nil ?_) | (with_reducible refine Flow.Both.mk ?_ ?_) | (with_reducible exact True.intro) | (with_reducible refine Flow.same_mk rfl rfl rfl ?_; go_simp; done) | (with_reducible exact Flow.same_un rfl rfl rfl) | (refine Flow.region_still mixed ?hB ?_; (case hB => decide +kernel)))
              go_roundw
              case rel => exact ⟨k + 1, by omega, by go_num, HF.out.trans (show Fr (fun _ => False) wr _ by (repeat' (first | with_reducible exact Fr.refl _ _ | with_reducible apply Fr.alloc | with_reducible apply Fr.drew | with_reducible apply Fr.drewN | (with_reducible refine Fr.setCell ?_ ?_ _)))) (fun _ _ h => h)⟩
              case measure => simp [intOf]; omega
          · obtain rfl : BL = k := by omega
            go_wp2_with (first | fail | still_step | (with_reducible refine wpStill_nil ?_) | (with_reducible refine Flow.Both.mk ?_ ?_) | (with_reducible exact True.intro) | (with_reducible refine Flow.same_mk rfl rfl rfl ?_; go_simp; done) | (with_reducible exact Flow.same_un rfl rfl rfl) | (refine Flow.region_still mixed ?hB ?_; (case hB => decide +kernel)))
            go_at_call 24
            refine Calls.named fun wc hwc => ?_
            have hfc : Fr (fun _ => False) wr wc := by rw [hwc]; (repeat' (first | with_reducible exact Fr.refl _ _ | with_reducible apply Fr.alloc | with_reducible apply Fr.drew | with_reducible apply Fr.drewN | (with_reducible refine Fr.setCell ?_ ?_ _)))
            have hf6c := HF.out.trans hfc (fun _ _ h => h)
            rw [HBL.out] at HW5 HW6 ⊢
            refine (plain30_is a6 c6 B wc (HW6.out.fr hf6c (fun _ _ h => h)) (by have := HBL.out; omega)).mono ?_
            rintro e w7 ⟨a7, c7, rfl, ho7, hf7⟩
            have HW7 := hid (ho7.vw.mono (R2 := fun _ => True) (fun _ _ => trivial))
            have HF7 := hid (hf6c.trans hf7 (fun _ _ h => h))
            clear hwc hfc hf6c ho7 hf7 HF
            go_wp2_with (first | fail | still_step | (with_reducible refine wpStill_nil ?_) | (with_reducible refine Flow.Both.mk ?_ ?_) | (with_reducible exact True.intro) | (with_reducible refine Flow.same_mk rfl rfl rfl ?_; go_simp; done) | (with_reducible exact Flow.same_un rfl rfl rfl) | (refine Flow.region_still mixed ?hB ?_; (case hB => decide +kernel)))
            go_at_call 23
            refine Calls.named fun wc hwc => ?_
            have hfc : Fr (fun _ => False) w7 wc := by rw [hwc]; (repeat' (first | with_reducible exact Fr.refl _ _ | with_reducible apply Fr.alloc | with_reducible apply Fr.drew | with_reducible apply Fr.drewN | (with_reducible refine Fr.setCell ?_ ?_ _)))
            refine (same30_is a5 a7 c5 c7 B B wc ((HW5.out.fr HF7.out (fun _ _ h => h)).fr hfc (fun _ _ h => h)) (HW7.out.fr hfc (fun _ _ h => h)) (by have := HBL.out; omega)).mono ?_
            rintro e w8 ⟨rfl, hf8⟩
            rw [decide_eq_true (rfl : B = B)]
            have HF8 := hid (((HF6.out.trans HF7.out (fun _ _ h => h)).trans hfc (fun _ _ h => h)).trans hf8 (fun _ _ h => h))
            clear hwc hfc hf8
            go_wp2_with (first | fail | still_step | (with_reducible refine wpStill_nil ?_) | (with_reducible refine Flow.Both.mk ?_ ?_) | (with_reducible exact True.intro) | (with_reducible refine Flow.same_mk rfl rfl rfl ?_; go_simp; done) | (with_reducible exact Flow.same_un rfl rfl rfl) | (refine Flow.region_still mixed ?hB ?_; (case hB => decide +kernel)))
            go_ret
            exact ⟨rfl, HF8.out.trans (show Fr (fun _ => False) w8 _ by (repeat' (first | with_reducible exact Fr.refl _ _ | with_reducible apply Fr.alloc | with_reducible apply Fr.drew | with_reducible apply Fr.drewN | (with_reducible refine Fr.setCell ?_ ?_ _)))) (fun _ _ h => h)⟩
end Go.Proofs.Ytbfeopakmjcapaa.Sp
