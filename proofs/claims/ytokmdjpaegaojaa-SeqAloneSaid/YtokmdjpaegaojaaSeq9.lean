/-
  New of package seq: threads at their beginnings, in new memory.
-/
import Derived.Test.YtokmdjpaegaojaaSeq8
namespace Go.Proofs.Ytokmdjpaegaojaa.Seq
open Go.RowKit
attribute [local irreducible] wpStill wpList Calls CallsIn


theorem RunRep.mono {w : World} {B ob : Nat} {R R2 : Nat → Prop} {ids : List (Nat × Nat)} {m : M} (h : RunRep w B R ids ob m) (hr : ∀ k, R k → R2 k) (hl : ∀ k, R2 k → k < w.heap.size) : RunRep w B R2 ids ob m := by
  obtain ⟨ta, tc, ma, mc, g1, g2, g3⟩ := h.head
  exact ⟨⟨ta, tc, ma, mc, g1, g2.mono (fun k _ h => hr k h), g3.mono (fun k _ h => hr k h)⟩, h.own, h.len, fun i p t hp ht => by
    obtain ⟨ca, cc, l1, l2, l3⟩ := h.ths i p t hp ht
    exact ⟨ca, cc, l1, l2.mono (fun k _ h => hr k h), l3⟩, h.tbs, h.rbs, hr _ h.inB, hr _ h.inO, fun p hp => ⟨hr _ (h.inT p hp).1, hr _ (h.inT p hp).2⟩, hl⟩

theorem codeC_one (c : List Ins) : ∀ u ∈ codeC c, u.oneCell' = true := by
  intro u hu
  obtain ⟨i, _, hi⟩ := List.mem_flatMap.1 hu
  simp [insC] at hi
  rcases hi with rfl | rfl | rfl | rfl | rfl | rfl | rfl <;> rfl

theorem infoPTH : (Try.prog.info? 55).map (fun i => (i.zero, i.size, i.bytes)) = some (some (.pointer none), 1, 8) := by kernel_rfl

set_option maxHeartbeats 4000000 in
theorem new_is (Rc Rm : Nat → Prop) (ao am : Option Addr) (co cm : Nat) (qs : List ((Option Addr × Nat) × List Ins)) (mem : List Int) (w : World) (hc : Codes w Rc ao qs) (hm : Vw w 1 Rm am mem.length (ints mem)) (hmn : am = none → mem.length = 0)
    (hq : qs.length ≤ 1000) (hl : mem.length ≤ 1000) (hi : ∀ q ∈ qs, q.2.length ≤ 1000) :
    Calls Try.prog 8 #[.slice ao qs.length co, .slice am mem.length cm] w fun e w' => ∃ B ob ids, e = .returned (.pointer (some ⟨B, 0, none⟩)) ∧ RunRep w' B (fun k => w.heap.size ≤ k ∧ k < w'.heap.size) ids ob (start (qs.map (·.2)) mem) ∧ Fr (fun _ => False) w w' := by
  have HC := hid hc
  have HM := hid hm
  have HI := hid hi
  clear hc hm hi
  obtain ⟨L, hL⟩ : ∃ L, L = mem.length := ⟨_, rfl⟩
  have HL := hid hL
  rw [← hL] at hl hmn
  rw [← hL]
  obtain ⟨L2, hL2⟩ : ∃ L2, L2 = qs.length := ⟨_, rfl⟩
  have HL2 := hid hL2
  rw [← hL2] at hq
  rw [← hL2]
  clear hL hL2
  go_enter Try.func8, Try.ntmps8
  have hmm := @run_makeMap Try.prog
  go_wp2_with (first | (go_at_call 15; refine (clone_int Rm am L cm (ints mem) w (by rw [HL.out]; exact HM.out) hmn (ints_one _) (by omega)).mono ?_; rintro e w1 ⟨ma, mc, rfl, ho, hf, _⟩; have HO := hid ho; have HF := hid hf; clear ho hf) | still_step | (with_reducible refine wpStill_nil ?_) | (with_reducible refine Flow.Both.mk ?_ ?_) | (with_reducible exact True.intro) | (with_reducible refine Flow.same_mk rfl rfl rfl ?_; go_simp; done) | (with_reducible exact Flow.same_un rfl rfl rfl) | (with_reducible refine Flow.region_fork (id := 5) [0, 0, 2, 6, 14, 0, 32, 0, 224, 480, 992, 2046, 4095, 8191, 16383] 20416 12316 (.look 0 (.look 1 (.look 2 (.look 3 (.look 4 (.look 5 (.act 6 [2, 3, 4] (.act 7 [2, 3, 4] (.act 8 [2, 3, 4] (.act 9 [2, 3, 4] (.act 10 [2, 3, 4] (.act 11 [] (.look 12 (.look 13 (.act 14 [] .done .stop))) .stop) .stop) .stop) .stop) .stop) (.act 7 [2, 3, 4] (.act 6 [2, 3, 4] (.act 8 [2, 3, 4] (.act 9 [2, 3, 4] (.act 10 [2, 3, 4] (.act 11 [] (.look 12 (.look 13 (.act 14 [] .done .stop))) .stop) .stop) .stop) .stop) .stop) .stop)))))))) mixed ?hB ?_; (case hB => decide +kernel); simp only [List.map_cons, List.map_nil, Array.getD_eq_getD_getElem?, List.getElem?_toArray, List.getElem?_cons_zero, List.getElem?_cons_succ, Option.getD_some, Flow.wpFT, Flow.Tr.map, Flow.SameAll]) | (refine Flow.region_still mixed ?hB ?_; (case hB => decide +kernel)))
  obtain ⟨w2, hw2, hf2⟩ : ∃ w2, w2 = (w1.alloc (.map #[] 0)).alloc (.cells #[.slice none 0 0, .slice ma L mc, .map (some w1.heap.size)] 54) ∧ Fr (fun _ => False) w1 w2 := ⟨_, rfl, by (repeat' (first | with_reducible exact Fr.refl _ _ | with_reducible apply Fr.alloc | with_reducible apply Fr.drew | with_reducible apply Fr.drewN | (with_reducible refine Fr.setCell ?_ ?_ _)))⟩
  have hb2 : Blk w2 (w1.heap.size + 1) #[.slice none 0 0, .slice ma L mc, .map (some w1.heap.size)] 54 := by rw [hw2]; have := Blk.new (w1.alloc (.map #[] 0)) #[.slice none 0 0, .slice ma L mc, .map (some w1.heap.size)] 54; simpa using this
  have hm2 : MapF w2 w1.heap.size .i64 (fun _ => none) := by rw [hw2]; exact (MapF.made w1 .i64).fr (S := fun _ => False) (by (repeat' (first | with_reducible exact Fr.refl _ _ | with_reducible apply Fr.alloc | with_reducible apply Fr.drew | with_reducible apply Fr.drewN | (with_reducible refine Fr.setCell ?_ ?_ _)))) (fun h => h)
  have hs2 : w2.heap.size = w1.heap.size + 2 := by rw [hw2]; simp
  have hs1 := HF.out.size
  have hrun : RunRep w2 (w1.heap.size + 1) (fun k => w.heap.size ≤ k ∧ k < w2.heap.size) [] w1.heap.size (start [] mem) := by
    refine ⟨⟨none, 0, ma, mc, ?_, OwnAt.nil _ _ _ _ _, ?_⟩, hm2, rfl, fun i p t hp => by simp at hp, by simp, by simp, by omega, by omega, fun p hp => by simp at hp, fun k hk => hk.2⟩
    · rw [show ((start [] mem).mem.length : Nat) = L from HL.out.symm]; exact hb2
    · rw [show ((start [] mem).mem.length : Nat) = L from HL.out.symm]
      have := HO.out.fr hf2 (fun _ _ h => h)
      exact this.mono (fun k hk h => ⟨h, hk⟩)
  have HR := hid hrun
  have HF2 := hid (HF.out.trans hf2 (fun _ _ h => h))
  rw [← hw2]
  clear hrun hm2 hb2 hf2 hw2 HO HF
  go_loopw [15] (fun i wr => ∃ (k : Nat) (ids : List (Nat × Nat)), k ≤ L2 ∧ i = .int .i64 k ∧ RunRep wr (w1.heap.size + 1) (fun k => w.heap.size ≤ k ∧ k < wr.heap.size) ids w1.heap.size (start ((qs.take k).map (·.2)) mem) ∧ Fr (fun _ => False) w wr) (fun i _ => L2 - (intOf i).toNat)
  case atStart => exact ⟨0, [], Nat.zero_le _, rfl, by simpa using HR.out, HF2.out⟩
  case round =>
    obtain ⟨k, ids, hk, rfl, hr, hf⟩ := hrel
    have HR1 := hid hr
    have HF1 := hid hf
    clear hr hf HR HF2
    by_cases hlt : k < L2
    · have hkl : k < qs.length := by have := HL2.out; omega
      obtain ⟨r, off, rfl, hcell⟩ := (HC.out.fr HF1.out (fun _ _ h => h)).cell hkl
      have hqk : qs[k]? = some qs[k] := by simp [hkl]
      have hin := (HC.out.fr HF1.out (fun _ _ h => h)).inn qs[k] (List.getElem_mem hkl)
      have hi2 := HI.out qs[k] (List.getElem_mem hkl)
      have htk : (qs.take (k + 1)).map (·.2) = (qs.take k).map (·.2) ++ [qs[k].2] := by rw [List.take_succ_eq_append_getElem hkl, List.map_append]; rfl
      obtain ⟨⟨⟨sp, sc⟩, code⟩, hq2⟩ : ∃ q, q = qs[k] := ⟨_, rfl⟩
      rw [← hq2] at hcell hin hi2 htk
      dsimp only at hcell hin hi2 htk
      obtain ⟨ta, tc, ma2, mc2, hB, hO, _⟩ := HR1.out.head
      have b0 : wr.cell? ⟨w1.heap.size + 1, 0, none⟩ = some (.slice ta ids.length tc) := (hB.cell 0).trans rfl
      have c0 := hB.free 0
      have HB := hid hB
      have HO := hid hO
      have HIN := hid hin
      have HTK := hid htk
      have hBl := hB.lt
      have hlen := HR1.out.len
      have hil : ids.length = k := by rw [hlen]; unfold start; simp; omega
      clear hB hO hin htk hqk hq2 hlen
      obtain ⟨S, hOS, hS⟩ := OwnAt.tight HO.out
      have HOS := hid hOS
      have HS := hid hS
      have HIL := hid hil
      obtain ⟨i0, hi0, hz0, hz1, hz2⟩ := info_parts infoPTH
      clear hOS hS hil HO
      go_wp2_with (first | fail | still_step | (with_reducible refine wpStill_nil ?_) | (with_reducible refine Flow.Both.mk ?_ ?_) | (with_reducible exact True.intro) | (with_reducible refine Flow.same_mk rfl rfl rfl ?_; go_simp; done) | (with_reducible exact Flow.same_un rfl rfl rfl) | (with_reducible refine Flow.region_fork (id := 5) [0, 0, 2, 6, 14, 0, 32, 0, 224, 480, 992, 2046, 4095, 8191, 16383] 20416 12316 (.look 0 (.look 1 (.look 2 (.look 3 (.look 4 (.look 5 (.act 6 [2, 3, 4] (.act 7 [2, 3, 4] (.act 8 [2, 3, 4] (.act 9 [2, 3, 4] (.act 10 [2, 3, 4] (.act 11 [] (.look 12 (.look 13 (.act 14 [] .done .stop))) .stop) .stop) .stop) .stop) .stop) (.act 7 [2, 3, 4] (.act 6 [2, 3, 4] (.act 8 [2, 3, 4] (.act 9 [2, 3, 4] (.act 10 [2, 3, 4] (.act 11 [] (.look 12 (.look 13 (.act 14 [] .done .stop))) .stop) .stop) .stop) .stop) .stop) .stop)))))))) mixed ?hB ?_; (case hB => decide +kernel); simp only [List.map_cons, List.map_nil, Array.getD_eq_getD_getElem?, List.getElem?_toArray, List.getElem?_cons_zero, List.getElem?_cons_succ, Option.getD_some, Flow.wpFT, Flow.Tr.map, Flow.SameAll]) | (refine Flow.region_still mixed ?hB ?_; (case hB => decide +kernel)))
      · go_wp2_with (first | (go_at_call 16; refine (clone_code Rc sp code.length sc (codeC code) wr.drew (HIN.out.1.fr (S := fun _ => False) (by (repeat' (first | with_reducible exact Fr.refl _ _ | with_reducible apply Fr.alloc | with_reducible apply Fr.drew | with_reducible apply Fr.drewN | (with_reducible refine Fr.setCell ?_ ?_ _)))) (fun _ _ h => h)) HIN.out.2 (codeC_one code) (by omega)).mono ?_; rintro e w3 ⟨ca, cc, rfl, ho, hf, _⟩; have HO3 := hid ho; have HF3 := hid (show Fr (fun _ => False) wr w3 from (show Fr (fun _ => False) wr _ by (repeat' (first | with_reducible exact Fr.refl _ _ | with_reducible apply Fr.alloc | with_reducible apply Fr.drew | with_reducible apply Fr.drewN | (with_reducible refine Fr.setCell ?_ ?_ _)))).trans hf (fun _ _ h => h)); have b03 := HF3.out.cell b0 (fun h => h); have c03 := (HF3.out.frozen (a := ⟨w1.heap.size + 1, 0, none⟩) hBl (fun h => h)).trans c0; have hl3 := HF3.out.size; have hBl3 : w1.heap.size + 1 < w3.heap.size := (by omega); have hBl4 : w1.heap.size < w3.heap.size := (by omega); have hBl5 : w1.heap.size < w3.heap.size + 1 := (by omega); have hBl6 : w1.heap.size + 1 ≠ w3.heap.size := (by omega); have hBl7 : ¬ w1.heap.size = w3.heap.size := (by omega); have hBl8 : ¬ w1.heap.size = w3.heap.size + 1 := (by omega); skip; clear ho hf; obtain ⟨wz, hwz⟩ : ∃ wz, wz = ((w3.alloc (.map #[] 0)).alloc (.cells #[.slice ca code.length cc, .int .i64 0, .map (some w3.heap.size), .bool false] 59)).alloc (.cells #[.pointer (some ⟨w3.heap.size + 1, 0, none⟩)] 55) := ⟨_, rfl⟩; have HWZ := hid hwz; clear hwz) | (at_builtin; rw [← HWZ.out]; refine wpList_append_Own _ rfl (.tmp 23) (.tmp 29) 52 rfl 55 i0 (.pointer none) 1 8 Try.underlying52 hi0 hz0 hz1 hz2 rfl (by decide) S (fun k => k = w3.heap.size + 2) ta ids.length tc (ids.map fun p => Value.pointer (some ⟨p.1, 0, none⟩)) rfl (HOS.out.fr (S := fun _ => False) (HF3.out.trans (S := fun _ => False) (S2 := fun _ => False) (by rw [HWZ.out]; (repeat' (first | with_reducible exact Fr.refl _ _ | with_reducible apply Fr.alloc | with_reducible apply Fr.drew | with_reducible apply Fr.drewN | (with_reducible refine Fr.setCell ?_ ?_ _)))) (fun _ _ h => h)) (fun _ _ h => h)) (some ⟨w3.heap.size + 2, 0, none⟩) 1 1 [.pointer (some ⟨w3.heap.size + 1, 0, none⟩)] rfl (Vw.of_blk (C := #[.pointer (some ⟨w3.heap.size + 1, 0, none⟩)]) (T := 55) (by rw [HWZ.out]; have := Blk.new ((w3.alloc (.map #[] 0)).alloc (.cells #[.slice ca code.length cc, .int .i64 0, .map (some w3.heap.size), .bool false] 59)) #[.pointer (some ⟨w3.heap.size + 1, 0, none⟩)] 55; simpa using this) rfl rfl) (by simp [Value.oneCell']) ?b1 ?b2 ?grow) | still_step | (with_reducible refine wpStill_nil ?_) | (with_reducible refine Flow.Both.mk ?_ ?_) | (with_reducible exact True.intro) | (with_reducible refine Flow.same_mk rfl rfl rfl ?_; go_simp; done) | (with_reducible exact Flow.same_un rfl rfl rfl) | (with_reducible refine Flow.region_fork (id := 5) [0, 0, 2, 6, 14, 0, 32, 0, 224, 480, 992, 2046, 4095, 8191, 16383] 20416 12316 (.look 0 (.look 1 (.look 2 (.look 3 (.look 4 (.look 5 (.act 6 [2, 3, 4] (.act 7 [2, 3, 4] (.act 8 [2, 3, 4] (.act 9 [2, 3, 4] (.act 10 [2, 3, 4] (.act 11 [] (.look 12 (.look 13 (.act 14 [] .done .stop))) .stop) .stop) .stop) .stop) .stop) (.act 7 [2, 3, 4] (.act 6 [2, 3, 4] (.act 8 [2, 3, 4] (.act 9 [2, 3, 4] (.act 10 [2, 3, 4] (.act 11 [] (.look 12 (.look 13 (.act 14 [] .done .stop))) .stop) .stop) .stop) .stop) .stop) .stop)))))))) mixed ?hB ?_; (case hB => decide +kernel); simp only [List.map_cons, List.map_nil, Array.getD_eq_getD_getElem?, List.getElem?_toArray, List.getElem?_cons_zero, List.getElem?_cons_succ, Option.getD_some, Flow.wpFT, Flow.Tr.map, Flow.SameAll]) | (refine Flow.region_still mixed ?hB ?_; (case hB => decide +kernel)))
        case b1 => have := HIL.out; unfold maxLen; omega
        case b2 => have := HIL.out; omega
        case grow =>
          intro ta' tc' w4 ho4 hf4
          have hwz := HWZ.out
          have hFz : Fr (fun _ => False) w3 wz := by rw [hwz]; (repeat' (first | with_reducible exact Fr.refl _ _ | with_reducible apply Fr.alloc | with_reducible apply Fr.drew | with_reducible apply Fr.drewN | (with_reducible refine Fr.setCell ?_ ?_ _)))
          have hz3 : wz.heap.size = w3.heap.size + 3 := by rw [hwz]; simp
          have hbt : Blk wz (w3.heap.size + 1) #[.slice ca code.length cc, .int .i64 0, .map (some (w3.heap.size)), .bool false] 59 := by
            rw [hwz]; have := (Blk.new (w3.alloc (.map #[] 0)) #[.slice ca code.length cc, .int .i64 0, .map (some (w3.heap.size)), .bool false] 59).alloc (.cells #[.pointer (some ⟨w3.heap.size + 1, 0, none⟩)] 55); simpa using this
          have hmt : MapF wz (w3.heap.size) .i64 (fun _ => none) := by rw [hwz]; exact ((MapF.made w3 .i64).fr (S := fun _ => False) (by (repeat' (first | with_reducible exact Fr.refl _ _ | with_reducible apply Fr.alloc | with_reducible apply Fr.drew | with_reducible apply Fr.drewN | (with_reducible refine Fr.setCell ?_ ?_ _)))) (fun h => h))
          have hth : ThRep wz (fun k => wr.heap.size ≤ k ∧ k < wz.heap.size) (w3.heap.size + 1) (w3.heap.size) ⟨code, 0, fun _ => none, false⟩ := ⟨ca, cc, hbt, (HO3.out.mono (R2 := fun k => wr.heap.size ≤ k ∧ k < wz.heap.size) (fun k hk h => ⟨h, by omega⟩)).fr hFz (fun _ _ h => h), hmt⟩
          have hadd := addTh HR1.out (HF3.out.trans hFz (fun _ _ h => h)) HB.out HS.out hf4 (t := ⟨code, 0, fun _ => none, false⟩) (by omega) (by omega) hth ho4
          have hsb : ∀ k, S k → w.heap.size ≤ k := fun k hk => (HS.out k hk).1.1
          have HADD := hid hadd
          have b04 := (hf4.cell ((HF3.out.trans hFz (fun _ _ h => h)).cell b0 (fun h => h)) (fun hk => by have := (ty_blk HB.out).symm.trans (HS.out _ hk).2; exact absurd (Option.some.inj this) (by decide)))
          have c04 := (((((HF3.out.trans hFz (fun _ _ h => h)).mono (S2 := fun k => S k) (fun k _ h => h.elim)).trans (S := fun k => S k) hf4 (fun k _ h => h)).frozen (a := ⟨w1.heap.size + 1, 0, none⟩) hBl (fun hk => by have := (ty_blk HB.out).symm.trans (HS.out _ hk).2; exact absurd (Option.some.inj this) (by decide))).trans c0)
          have hl4 := hf4.size
          have HFZ := hid ((HF1.out.trans HF3.out (fun _ _ h => h)).trans hFz (fun _ _ h => h))
          clear hadd hth hmt hbt hf4 ho4 hwz
          go_wp2_with (first | fail | still_step | (with_reducible refine wpStill_nil ?_) | (with_reducible refine Flow.Both.mk ?_ ?_) | (with_reducible exact True.intro) | (with_reducible refine Flow.same_mk rfl rfl rfl ?_; go_simp; done) | (with_reducible exact Flow.same_un rfl rfl rfl) | (with_reducible refine Flow.region_fork (id := 5) [0, 0, 2, 6, 14, 0, 32, 0, 224, 480, 992, 2046, 4095, 8191, 16383] 20416 12316 (.look 0 (.look 1 (.look 2 (.look 3 (.look 4 (.look 5 (.act 6 [2, 3, 4] (.act 7 [2, 3, 4] (.act 8 [2, 3, 4] (.act 9 [2, 3, 4] (.act 10 [2, 3, 4] (.act 11 [] (.look 12 (.look 13 (.act 14 [] .done .stop))) .stop) .stop) .stop) .stop) .stop) (.act 7 [2, 3, 4] (.act 6 [2, 3, 4] (.act 8 [2, 3, 4] (.act 9 [2, 3, 4] (.act 10 [2, 3, 4] (.act 11 [] (.look 12 (.look 13 (.act 14 [] .done .stop))) .stop) .stop) .stop) .stop) .stop) .stop)))))))) mixed ?hB ?_; (case hB => decide +kernel); simp only [List.map_cons, List.map_nil, Array.getD_eq_getD_getElem?, List.getElem?_toArray, List.getElem?_cons_zero, List.getElem?_cons_succ, Option.getD_some, Flow.wpFT, Flow.Tr.map, Flow.SameAll]) | (refine Flow.region_still mixed ?hB ?_; (case hB => decide +kernel)))
          go_roundw
          case rel =>
            refine ⟨k + 1, ids ++ [(w3.heap.size + 1, w3.heap.size)], by omega, by go_num, ?_, HFZ.out.trans (S := fun _ => False) HADD.out.2 (fun k hk h => ?_)⟩
            · rw [HTK.out]
              have := HADD.out.1
              refine RunRep.mono (R := fun k => (w.heap.size ≤ k ∧ k < wr.heap.size) ∨ (wr.heap.size ≤ k ∧ k < w4.heap.size)) ?_ (fun k h => by have := HF1.out.size; simp; omega) (fun k h => h.2)
              simpa [start] using this
            · rcases h with h | h
              · exact absurd (hsb k h) (by omega)
              · exact absurd h (by omega)
          case measure => simp [intOf]; omega
      · go_wp2_with (first | (go_at_call 16; refine (clone_code Rc sp code.length sc (codeC code) (wr.alloc (.map #[] 0)).drew (HIN.out.1.fr (S := fun _ => False) (by (repeat' (first | with_reducible exact Fr.refl _ _ | with_reducible apply Fr.alloc | with_reducible apply Fr.drew | with_reducible apply Fr.drewN | (with_reducible refine Fr.setCell ?_ ?_ _)))) (fun _ _ h => h)) HIN.out.2 (codeC_one code) (by omega)).mono ?_; rintro e w3 ⟨ca, cc, rfl, ho, hf, _⟩; have HO3 := hid ho; have HF3 := hid (show Fr (fun _ => False) wr w3 from (show Fr (fun _ => False) wr _ by (repeat' (first | with_reducible exact Fr.refl _ _ | with_reducible apply Fr.alloc | with_reducible apply Fr.drew | with_reducible apply Fr.drewN | (with_reducible refine Fr.setCell ?_ ?_ _)))).trans hf (fun _ _ h => h)); have b03 := HF3.out.cell b0 (fun h => h); have c03 := (HF3.out.frozen (a := ⟨w1.heap.size + 1, 0, none⟩) hBl (fun h => h)).trans c0; have hl3 := HF3.out.size; have hBl3 : w1.heap.size + 1 < w3.heap.size := (by omega); have hBl4 : w1.heap.size < w3.heap.size := (by omega); have hBl5 : w1.heap.size < w3.heap.size + 1 := (by omega); have hBl6 : w1.heap.size + 1 ≠ w3.heap.size := (by omega); have hBl7 : ¬ w1.heap.size = w3.heap.size := (by omega); have hBl8 : ¬ w1.heap.size = w3.heap.size + 1 := (by omega); have hmw : MapF w3 wr.heap.size .i64 (fun _ => none) := ((MapF.made wr .i64).fr (S := fun _ => False) (by (repeat' (first | with_reducible exact Fr.refl _ _ | with_reducible apply Fr.alloc | with_reducible apply Fr.drew | with_reducible apply Fr.drewN | (with_reducible refine Fr.setCell ?_ ?_ _)))) (fun h => h)).fr hf (fun h => h); have hl5 : wr.heap.size < w3.heap.size := (by have := hf.size; simp at this; omega); clear ho hf; obtain ⟨wz, hwz⟩ : ∃ wz, wz = (w3.alloc (.cells #[.slice ca code.length cc, .int .i64 0, .map (some wr.heap.size), .bool false] 59)).alloc (.cells #[.pointer (some ⟨w3.heap.size, 0, none⟩)] 55) := ⟨_, rfl⟩; have HWZ := hid hwz; clear hwz) | (at_builtin; rw [← HWZ.out]; refine wpList_append_Own _ rfl (.tmp 23) (.tmp 29) 52 rfl 55 i0 (.pointer none) 1 8 Try.underlying52 hi0 hz0 hz1 hz2 rfl (by decide) S (fun k => k = w3.heap.size + 1) ta ids.length tc (ids.map fun p => Value.pointer (some ⟨p.1, 0, none⟩)) rfl (HOS.out.fr (S := fun _ => False) (HF3.out.trans (S := fun _ => False) (S2 := fun _ => False) (by rw [HWZ.out]; (repeat' (first | with_reducible exact Fr.refl _ _ | with_reducible apply Fr.alloc | with_reducible apply Fr.drew | with_reducible apply Fr.drewN | (with_reducible refine Fr.setCell ?_ ?_ _)))) (fun _ _ h => h)) (fun _ _ h => h)) (some ⟨w3.heap.size + 1, 0, none⟩) 1 1 [.pointer (some ⟨w3.heap.size, 0, none⟩)] rfl (Vw.of_blk (C := #[.pointer (some ⟨w3.heap.size, 0, none⟩)]) (T := 55) (by rw [HWZ.out]; have := Blk.new (w3.alloc (.cells #[.slice ca code.length cc, .int .i64 0, .map (some wr.heap.size), .bool false] 59)) #[.pointer (some ⟨w3.heap.size, 0, none⟩)] 55; simpa using this) rfl rfl) (by simp [Value.oneCell']) ?b1 ?b2 ?grow) | still_step | (with_reducible refine wpStill_nil ?_) | (with_reducible refine Flow.Both.mk ?_ ?_) | (with_reducible exact True.intro) | (with_reducible refine Flow.same_mk rfl rfl rfl ?_; go_simp; done) | (with_reducible exact Flow.same_un rfl rfl rfl) | (with_reducible refine Flow.region_fork (id := 5) [0, 0, 2, 6, 14, 0, 32, 0, 224, 480, 992, 2046, 4095, 8191, 16383] 20416 12316 (.look 0 (.look 1 (.look 2 (.look 3 (.look 4 (.look 5 (.act 6 [2, 3, 4] (.act 7 [2, 3, 4] (.act 8 [2, 3, 4] (.act 9 [2, 3, 4] (.act 10 [2, 3, 4] (.act 11 [] (.look 12 (.look 13 (.act 14 [] .done .stop))) .stop) .stop) .stop) .stop) .stop) (.act 7 [2, 3, 4] (.act 6 [2, 3, 4] (.act 8 [2, 3, 4] (.act 9 [2, 3, 4] (.act 10 [2, 3, 4] (.act 11 [] (.look 12 (.look 13 (.act 14 [] .done .stop))) .stop) .stop) .stop) .stop) .stop) .stop)))))))) mixed ?hB ?_; (case hB => decide +kernel); simp only [List.map_cons, List.map_nil, Array.getD_eq_getD_getElem?, List.getElem?_toArray, List.getElem?_cons_zero, List.getElem?_cons_succ, Option.getD_some, Flow.wpFT, Flow.Tr.map, Flow.SameAll]) | (refine Flow.region_still mixed ?hB ?_; (case hB => decide +kernel)))
        case b1 => have := HIL.out; unfold maxLen; omega
        case b2 => have := HIL.out; omega
        case grow =>
          intro ta' tc' w4 ho4 hf4
          have hwz := HWZ.out
          have hFz : Fr (fun _ => False) w3 wz := by rw [hwz]; (repeat' (first | with_reducible exact Fr.refl _ _ | with_reducible apply Fr.alloc | with_reducible apply Fr.drew | with_reducible apply Fr.drewN | (with_reducible refine Fr.setCell ?_ ?_ _)))
          have hz3 : wz.heap.size = w3.heap.size + 2 := by rw [hwz]; simp
          have hbt : Blk wz (w3.heap.size) #[.slice ca code.length cc, .int .i64 0, .map (some (wr.heap.size)), .bool false] 59 := by
            rw [hwz]; have := (Blk.new (w3) #[.slice ca code.length cc, .int .i64 0, .map (some (wr.heap.size)), .bool false] 59).alloc (.cells #[.pointer (some ⟨w3.heap.size, 0, none⟩)] 55); simpa using this
          have hmt : MapF wz (wr.heap.size) .i64 (fun _ => none) := hmw.fr hFz (fun h => h)
          have hth : ThRep wz (fun k => wr.heap.size ≤ k ∧ k < wz.heap.size) (w3.heap.size) (wr.heap.size) ⟨code, 0, fun _ => none, false⟩ := ⟨ca, cc, hbt, (HO3.out.mono (R2 := fun k => wr.heap.size ≤ k ∧ k < wz.heap.size) (fun k hk h => ⟨by simp at h; omega, by omega⟩)).fr hFz (fun _ _ h => h), hmt⟩
          have hadd := addTh HR1.out (HF3.out.trans hFz (fun _ _ h => h)) HB.out HS.out hf4 (t := ⟨code, 0, fun _ => none, false⟩) (by omega) (by omega) hth ho4
          have hsb : ∀ k, S k → w.heap.size ≤ k := fun k hk => (HS.out k hk).1.1
          have HADD := hid hadd
          have b04 := (hf4.cell ((HF3.out.trans hFz (fun _ _ h => h)).cell b0 (fun h => h)) (fun hk => by have := (ty_blk HB.out).symm.trans (HS.out _ hk).2; exact absurd (Option.some.inj this) (by decide)))
          have c04 := (((((HF3.out.trans hFz (fun _ _ h => h)).mono (S2 := fun k => S k) (fun k _ h => h.elim)).trans (S := fun k => S k) hf4 (fun k _ h => h)).frozen (a := ⟨w1.heap.size + 1, 0, none⟩) hBl (fun hk => by have := (ty_blk HB.out).symm.trans (HS.out _ hk).2; exact absurd (Option.some.inj this) (by decide))).trans c0)
          have hl4 := hf4.size
          have HFZ := hid ((HF1.out.trans HF3.out (fun _ _ h => h)).trans hFz (fun _ _ h => h))
          clear hadd hth hmt hbt hf4 ho4 hwz
          go_wp2_with (first | fail | still_step | (with_reducible refine wpStill_nil ?_) | (with_reducible refine Flow.Both.mk ?_ ?_) | (with_reducible exact True.intro) | (with_reducible refine Flow.same_mk rfl rfl rfl ?_; go_simp; done) | (with_reducible exact Flow.same_un rfl rfl rfl) | (with_reducible refine Flow.region_fork (id := 5) [0, 0, 2, 6, 14, 0, 32, 0, 224, 480, 992, 2046, 4095, 8191, 16383] 20416 12316 (.look 0 (.look 1 (.look 2 (.look 3 (.look 4 (.look 5 (.act 6 [2, 3, 4] (.act 7 [2, 3, 4] (.act 8 [2, 3, 4] (.act 9 [2, 3, 4] (.act 10 [2, 3, 4] (.act 11 [] (.look 12 (.look 13 (.act 14 [] .done .stop))) .stop) .stop) .stop) .stop) .stop) (.act 7 [2, 3, 4] (.act 6 [2, 3, 4] (.act 8 [2, 3, 4] (.act 9 [2, 3, 4] (.act 10 [2, 3, 4] (.act 11 [] (.look 12 (.look 13 (.act 14 [] .done .stop))) .stop) .stop) .stop) .stop) .stop) .stop)))))))) mixed ?hB ?_; (case hB => decide +kernel); simp only [List.map_cons, List.map_nil, Array.getD_eq_getD_getElem?, List.getElem?_toArray, List.getElem?_cons_zero, List.getElem?_cons_succ, Option.getD_some, Flow.wpFT, Flow.Tr.map, Flow.SameAll]) | (refine Flow.region_still mixed ?hB ?_; (case hB => decide +kernel)))
          go_roundw
          case rel =>
            refine ⟨k + 1, ids ++ [(w3.heap.size, wr.heap.size)], by omega, by go_num, ?_, HFZ.out.trans (S := fun _ => False) HADD.out.2 (fun k hk h => ?_)⟩
            · rw [HTK.out]
              have := HADD.out.1
              refine RunRep.mono (R := fun k => (w.heap.size ≤ k ∧ k < wr.heap.size) ∨ (wr.heap.size ≤ k ∧ k < w4.heap.size)) ?_ (fun k h => by have := HF1.out.size; simp; omega) (fun k h => h.2)
              simpa [start] using this
            · rcases h with h | h
              · exact absurd (hsb k h) (by omega)
              · exact absurd h (by omega)
          case measure => simp [intOf]; omega
    · obtain rfl : k = L2 := by omega
      have hr := HR1.out
      rw [List.take_of_length_le (by have := HL2.out; omega)] at hr
      have HR2 := hid hr
      clear hr
      go_wp2_with (first | fail | still_step | (with_reducible refine wpStill_nil ?_) | (with_reducible refine Flow.Both.mk ?_ ?_) | (with_reducible exact True.intro) | (with_reducible refine Flow.same_mk rfl rfl rfl ?_; go_simp; done) | (with_reducible exact Flow.same_un rfl rfl rfl) | (with_reducible refine Flow.region_fork (id := 5) [0, 0, 2, 6, 14, 0, 32, 0, 224, 480, 992, 2046, 4095, 8191, 16383] 20416 12316 (.look 0 (.look 1 (.look 2 (.look 3 (.look 4 (.look 5 (.act 6 [2, 3, 4] (.act 7 [2, 3, 4] (.act 8 [2, 3, 4] (.act 9 [2, 3, 4] (.act 10 [2, 3, 4] (.act 11 [] (.look 12 (.look 13 (.act 14 [] .done .stop))) .stop) .stop) .stop) .stop) .stop) (.act 7 [2, 3, 4] (.act 6 [2, 3, 4] (.act 8 [2, 3, 4] (.act 9 [2, 3, 4] (.act 10 [2, 3, 4] (.act 11 [] (.look 12 (.look 13 (.act 14 [] .done .stop))) .stop) .stop) .stop) .stop) .stop) .stop)))))))) mixed ?hB ?_; (case hB => decide +kernel); simp only [List.map_cons, List.map_nil, Array.getD_eq_getD_getElem?, List.getElem?_toArray, List.getElem?_cons_zero, List.getElem?_cons_succ, Option.getD_some, Flow.wpFT, Flow.Tr.map, Flow.SameAll]) | (refine Flow.region_still mixed ?hB ?_; (case hB => decide +kernel)))
      go_ret
      exact ⟨_, _, _, rfl, HR2.out, HF1.out⟩
end Go.Proofs.Ytokmdjpaegaojaa.Seq
