/-
  SeqStill: the law's walk.
-/
import Derived.Test.YtokmdjpaegaojaaSeq12
namespace Go.Proofs.Ytokmdjpaegaojaa.Seq
open Go.RowKit
attribute [local irreducible] wpStill wpList Calls CallsIn

theorem infoINT : (Try.prog.info? 3).map (fun i => (i.zero, i.size, i.bytes)) = some (some (.int .i64 0), 1, 8) := by kernel_rfl

def tur (l : List (Int × Int)) : List Value := l.flatMap fun e => [.int .i64 e.1, .int .i64 e.2]
theorem tur_get (l : List (Int × Int)) : ∀ (k : Nat) (h : k < l.length), (tur l)[k * 2]? = some (.int .i64 l[k].1) ∧ (tur l)[k * 2 + 1]? = some (.int .i64 l[k].2) := by
  induction l with
  | nil => intro k h; simp at h
  | cons e l ih =>
    intro k h
    cases k with
    | zero => exact ⟨rfl, rfl⟩
    | succ k =>
      have := ih k (by simpa using h)
      simp only [tur, List.flatMap_cons]
      rw [show (k + 1) * 2 = 2 + k * 2 by omega, show 2 + k * 2 + 1 = 2 + (k * 2 + 1) by omega]
      rw [List.getElem?_append_right (by simp), List.getElem?_append_right (by simp)]
      simpa [tur] using this
theorem tur_of_rows (rows : List (List Int)) (h : ∀ r ∈ rows, r.length = 2) : ints rows.flatten = tur (rows.map fun r => (r.getD 0 0, r.getD 1 0)) := by
  induction rows with
  | nil => rfl
  | cons r rows ih =>
    obtain ⟨a, b, rfl⟩ : ∃ a b, r = [a, b] := by
      match r, h r (by simp) with
      | [a, b], _ => exact ⟨a, b, rfl⟩
    rw [List.flatten_cons, ints_append, ih (fun r hr => h r (by simp [hr]))]
    rfl
theorem tur_length (l : List (Int × Int)) : (tur l).length = l.length * 2 := by
  induction l with
  | nil => rfl
  | cons e l ih => simp [tur, Nat.add_mul] at ih ⊢; omega

theorem run_min30 {P : Program} (ts : Array TypeId) (t : TypeId) (a b : Int) (hb : b = min a 30) (w : World) : (Builtin.min_ ts t #[.int .i64 a, .int .i64 30]).run P w = .ok (.int .i64 b) w := by
  subst hb
  simp only [Builtin.min_]
  simp [List.foldlM_cons, List.foldlM_nil, Builtin.min2]
  split <;> omega

def places (m : M) (j : Nat) : List Int := (List.range j).map fun (x : Nat) => m.place x
def regs1 (m : M) (j : Nat) : List Int := (List.range j).map fun (x : Nat) => m.reg x 1
theorem places_succ (m : M) (j : Nat) : places m (j + 1) = places m j ++ [m.place j] := by simp [places, List.range_succ]
theorem regs1_succ (m : M) (j : Nat) : regs1 m (j + 1) = regs1 m j ++ [m.reg j 1] := by simp [regs1, List.range_succ]
theorem places_length (m : M) (j : Nat) : (places m j).length = j := by simp [places]
theorem regs1_length (m : M) (j : Nat) : (regs1 m j).length = j := by simp [regs1]

set_option maxHeartbeats 8000000 in
set_option maxRecDepth 100000 in
theorem still_walk (ao am at' : Option Addr) (co cm ct : Nat) (qs : List ((Option Addr × Nat) × List Ins)) (mem : List Int) (turns : List (Int × Int)) (w : World) (hc : Codes w (fun k => k < w.heap.size) ao qs) (hm : Vw w 1 (fun k => k < w.heap.size) am mem.length (ints mem)) (hmn : am = none → mem.length = 0)
    (ht : Vw w 2 (fun k => k < w.heap.size) at' turns.length (tur turns)) (hq : qs.length ≤ 9223372036854775807) (hml : mem.length ≤ 9223372036854775807) (htl : turns.length ≤ 9223372036854775807) :
    Calls Try.prog 5 #[.slice ao qs.length co, .slice am mem.length cm, .slice at' turns.length ct] w fun e w' => e = .returned (.bool true) ∧ Below w.heap.size w w' := by
  have HC := hid hc
  have HM := hid hm
  have HT := hid ht
  clear hc hm ht
  obtain ⟨L, hL⟩ : ∃ L, L = mem.length := ⟨_, rfl⟩
  obtain ⟨Q, hQ⟩ : ∃ Q, Q = qs.length := ⟨_, rfl⟩
  obtain ⟨T, hT⟩ : ∃ T, T = turns.length := ⟨_, rfl⟩
  rw [← hL] at hml hmn
  rw [← hQ] at hq
  rw [← hT] at htl
  rw [← hL, ← hQ, ← hT]
  have HL := hid hL
  have HQ := hid hQ
  have HTL := hid hT
  clear hL hQ hT
  go_enter Try.func5, Try.ntmps5
  go_wp2_with (first | fail | still_step | (with_reducible refine wpStill_nil ?_) | (with_reducible refine Flow.Both.mk ?_ ?_) | (with_reducible exact True.intro) | (with_reducible refine Flow.same_mk rfl rfl rfl ?_; go_simp; done) | (with_reducible exact Flow.same_un rfl rfl rfl) | (with_reducible refine Flow.region_flow (id := 28) [0, 1, 3, 3, 15, 31, 63, 127, 127, 511, 127, 127, 3199, 7295, 16383, 32767, 65535, 65535, 262143, 65535, 65535, 1638399, 3735551, 8388607, 16777215, 33554431] 262656 14708752 [(0, none), (1, none), (2, none), (3, none), (4, none), (5, none), (6, none), (7, none), (8, none), (10, none), (11, none), (12, none), (13, none), (9, some [12, 13]), (14, none), (15, none), (16, none), (17, none), (19, none), (20, none), (21, none), (22, none), (18, some [21, 22]), (23, none), (24, none), (25, none)] mixed ?hB ?_; (case hB => decide +kernel); simp only [Flow.textOf, List.map_cons, List.map_nil, Option.map_none, Option.map_some, Array.getD_eq_getD_getElem?, List.getElem?_toArray, List.getElem?_cons_zero, List.getElem?_cons_succ, Option.getD_some, Flow.wpFl, Flow.SameAll]) | (refine Flow.region_still mixed ?hB ?_; (case hB => decide +kernel)))
  go_at_call 6
  refine (awake_true _).mono ?_
  rintro e w1 ⟨rfl, hf⟩
  have HF1 := hid hf
  clear hf
  go_wp2_with (first | fail | still_step | (with_reducible refine wpStill_nil ?_) | (with_reducible refine Flow.Both.mk ?_ ?_) | (with_reducible exact True.intro) | (with_reducible refine Flow.same_mk rfl rfl rfl ?_; go_simp; done) | (with_reducible exact Flow.same_un rfl rfl rfl) | (with_reducible refine Flow.region_flow (id := 28) [0, 1, 3, 3, 15, 31, 63, 127, 127, 511, 127, 127, 3199, 7295, 16383, 32767, 65535, 65535, 262143, 65535, 65535, 1638399, 3735551, 8388607, 16777215, 33554431] 262656 14708752 [(0, none), (1, none), (2, none), (3, none), (4, none), (5, none), (6, none), (7, none), (8, none), (10, none), (11, none), (12, none), (13, none), (9, some [12, 13]), (14, none), (15, none), (16, none), (17, none), (19, none), (20, none), (21, none), (22, none), (18, some [21, 22]), (23, none), (24, none), (25, none)] mixed ?hB ?_; (case hB => decide +kernel); simp only [Flow.textOf, List.map_cons, List.map_nil, Option.map_none, Option.map_some, Array.getD_eq_getD_getElem?, List.getElem?_toArray, List.getElem?_cons_zero, List.getElem?_cons_succ, Option.getD_some, Flow.wpFl, Flow.SameAll]) | (refine Flow.region_still mixed ?hB ?_; (case hB => decide +kernel)))
  go_at_call 7
  have hsm := small_is (fun k => k < w.heap.size) ao am co cm L qs w1 (HC.out.fr HF1.out (fun _ _ h => h)) (by rw [← HQ.out]; exact hq) hml
  rw [← HQ.out] at hsm
  refine hsm.mono ?_
  rintro e w2 ⟨rfl, hf⟩
  have HF2 := hid (HF1.out.trans hf (fun _ _ h => h))
  clear hf HF1 hsm
  by_cases hs : smallB qs L = true
  · rw [hs]
    by_cases hgo : T ≤ 40
    · obtain ⟨s1, s2, s3⟩ := smallB_true hs
      rw [← HQ.out] at s1
      have HS3 := hid s3
      clear hs s3
      go_wp2_with (first | fail | still_step | (with_reducible refine wpStill_nil ?_) | (with_reducible refine Flow.Both.mk ?_ ?_) | (with_reducible exact True.intro) | (with_reducible refine Flow.same_mk rfl rfl rfl ?_; go_simp; done) | (with_reducible exact Flow.same_un rfl rfl rfl) | (with_reducible refine Flow.region_flow (id := 28) [0, 1, 3, 3, 15, 31, 63, 127, 127, 511, 127, 127, 3199, 7295, 16383, 32767, 65535, 65535, 262143, 65535, 65535, 1638399, 3735551, 8388607, 16777215, 33554431] 262656 14708752 [(0, none), (1, none), (2, none), (3, none), (4, none), (5, none), (6, none), (7, none), (8, none), (10, none), (11, none), (12, none), (13, none), (9, some [12, 13]), (14, none), (15, none), (16, none), (17, none), (19, none), (20, none), (21, none), (22, none), (18, some [21, 22]), (23, none), (24, none), (25, none)] mixed ?hB ?_; (case hB => decide +kernel); simp only [Flow.textOf, List.map_cons, List.map_nil, Option.map_none, Option.map_some, Array.getD_eq_getD_getElem?, List.getElem?_toArray, List.getElem?_cons_zero, List.getElem?_cons_succ, Option.getD_some, Flow.wpFl, Flow.SameAll]) | (refine Flow.region_still mixed ?hB ?_; (case hB => decide +kernel)))
      go_at_call 8
      have hnA := new_at (fun k => k < w.heap.size) (fun k => k < w.heap.size) ao am co cm qs mem w2 (HC.out.fr HF2.out (fun _ _ h => h)) (HM.out.fr HF2.out (fun _ _ h => h)) (by rw [← HL.out]; exact hmn) (by rw [← HQ.out]; omega) (by rw [← HL.out]; omega) (fun q hq => by have := HS3.out q hq; omega)
      rw [← HQ.out, ← HL.out] at hnA
      refine hnA.mono ?_
      rintro e w3 ⟨A, rfl, hA, hfA⟩
      have HF3 := hid (HF2.out.trans hfA (fun _ _ h => h))
      obtain ⟨R, hR⟩ : ∃ R : Nat → Prop, R = (fun k => w2.heap.size ≤ k ∧ k < w3.heap.size) := ⟨_, rfl⟩
      rw [← hR] at hA
      have hRn : ∀ k, R k → w.heap.size ≤ k := fun k hk => by rw [hR] at hk; have := HF2.out.size; omega
      obtain ⟨m, hm⟩ : ∃ m, m = start (qs.map (·.2)) mem := ⟨_, rfl⟩
      have hml : m.mem.length = L := by rw [hm]; exact HL.out.symm
      rw [← hm] at hA
      have HA := hid hA
      have HRN := hid hRn
      clear hA hfA hnA HF2 hR hm HS3 hRn
      go_wp2_with (first | fail | still_step | (with_reducible refine wpStill_nil ?_) | (with_reducible refine Flow.Both.mk ?_ ?_) | (with_reducible exact True.intro) | (with_reducible refine Flow.same_mk rfl rfl rfl ?_; go_simp; done) | (with_reducible exact Flow.same_un rfl rfl rfl) | (with_reducible refine Flow.region_flow (id := 28) [0, 1, 3, 3, 15, 31, 63, 127, 127, 511, 127, 127, 3199, 7295, 16383, 32767, 65535, 65535, 262143, 65535, 65535, 1638399, 3735551, 8388607, 16777215, 33554431] 262656 14708752 [(0, none), (1, none), (2, none), (3, none), (4, none), (5, none), (6, none), (7, none), (8, none), (10, none), (11, none), (12, none), (13, none), (9, some [12, 13]), (14, none), (15, none), (16, none), (17, none), (19, none), (20, none), (21, none), (22, none), (18, some [21, 22]), (23, none), (24, none), (25, none)] mixed ?hB ?_; (case hB => decide +kernel); simp only [Flow.textOf, List.map_cons, List.map_nil, Option.map_none, Option.map_some, Array.getD_eq_getD_getElem?, List.getElem?_toArray, List.getElem?_cons_zero, List.getElem?_cons_succ, Option.getD_some, Flow.wpFl, Flow.SameAll]) | (refine Flow.region_still mixed ?hB ?_; (case hB => decide +kernel)))
      go_loopw [10] (fun i wr => ∃ (k : Nat) (m : M), k ≤ T ∧ i = .int .i64 k ∧ At wr R A m ∧ m.mem.length = L ∧ Fr (fun _ => False) w wr) (fun i _ => T - (intOf i).toNat)
      case atStart => exact ⟨0, m, Nat.zero_le _, rfl, HA.out, hml, HF3.out⟩
      case round =>
        clear HA HF3 hml
        obtain ⟨k, mk, hk, rfl, ha, hmk, hf⟩ := hrel
        have HA := hid ha
        have HF := hid hf
        have HMK := hid hmk
        clear ha hf hmk
        by_cases hlt : k < T
        · have hkl : k < turns.length := by have := HTL.out; omega
          have hne : tur turns ≠ [] := fun h => by have := congrArg List.length h; rw [tur_length, List.length_nil] at this; omega
          obtain ⟨rt, offt, rfl, hrt, hcl⟩ := HT.out.cell hne
          have HT0 := hid (hcl (k * 2) _ (tur_get turns k hkl).1)
          have HT1 := hid (show w.cell? ⟨rt, offt + k * 2 + 1, none⟩ = _ from hcl (k * 2 + 1) _ (tur_get turns k hkl).2)
          clear hcl hne
          generalize turns[k].1 = who at *
          generalize turns[k].2 = fu at *
          have t0 := HF.out.cell HT0.out (fun h => h)
          have t1 := HF.out.cell HT1.out (fun h => h)
          go_wp2_with (first | fail | still_step | (with_reducible refine wpStill_nil ?_) | (with_reducible refine Flow.Both.mk ?_ ?_) | (with_reducible exact True.intro) | (with_reducible refine Flow.same_mk rfl rfl rfl ?_; go_simp; done) | (with_reducible exact Flow.same_un rfl rfl rfl) | (with_reducible refine Flow.region_flow (id := 28) [0, 1, 3, 3, 15, 31, 63, 127, 127, 511, 127, 127, 3199, 7295, 16383, 32767, 65535, 65535, 262143, 65535, 65535, 1638399, 3735551, 8388607, 16777215, 33554431] 262656 14708752 [(0, none), (1, none), (2, none), (3, none), (4, none), (5, none), (6, none), (7, none), (8, none), (10, none), (11, none), (12, none), (13, none), (9, some [12, 13]), (14, none), (15, none), (16, none), (17, none), (19, none), (20, none), (21, none), (22, none), (18, some [21, 22]), (23, none), (24, none), (25, none)] mixed ?hB ?_; (case hB => decide +kernel); simp only [Flow.textOf, List.map_cons, List.map_nil, Option.map_none, Option.map_some, Array.getD_eq_getD_getElem?, List.getElem?_toArray, List.getElem?_cons_zero, List.getElem?_cons_succ, Option.getD_some, Flow.wpFl, Flow.SameAll]) | (refine Flow.region_still mixed ?hB ?_; (case hB => decide +kernel)))
          obtain ⟨wk, hwk⟩ : ∃ wk : World, wk = wr := ⟨_, rfl⟩
          rw [← hwk]
          rw [← hwk] at t0 t1 HA HF
          clear hwk
          go_loopw [12, 13, 14] (fun v12 v13 i wq => ∃ (j : Nat) (a12 a13 : Option Addr) (c12 c13 : Nat), j ≤ Q ∧ i = .int .i64 j ∧ v12 = .slice a12 j c12 ∧ v13 = .slice a13 j c13 ∧ OwnAt wq 3 1 (fun z => wk.heap.size ≤ z) a12 j c12 (ints (places mk j)) ∧
            OwnAt wq 2 1 (fun z => wk.heap.size ≤ z) a13 j c13 (ints (regs1 mk j)) ∧ Fr (fun _ => False) wk wq) (fun _ _ i _ => Q - (intOf i).toNat)
          case atStart => exact ⟨0, none, none, 0, 0, Nat.zero_le _, rfl, rfl, rfl, OwnAt.nil _ _ _ _ _, OwnAt.nil _ _ _ _ _, Fr.refl _ _⟩
          case round =>
            obtain ⟨j, a12, a13, c12, c13, hj, rfl, rfl, rfl, ho12, ho13, hf⟩ := hrel
            have HO12 := hid ho12
            have HO13 := hid ho13
            have HFj := hid hf
            have HAj := hid (HA.out.fr hf (fun _ _ h => h))
            clear ho12 ho13 hf
            by_cases hjq : j < Q
            · go_wp2_with (first | fail | still_step | (with_reducible refine wpStill_nil ?_) | (with_reducible refine Flow.Both.mk ?_ ?_) | (with_reducible exact True.intro) | (with_reducible refine Flow.same_mk rfl rfl rfl ?_; go_simp; done) | (with_reducible exact Flow.same_un rfl rfl rfl) | (with_reducible refine Flow.region_flow (id := 28) [0, 1, 3, 3, 15, 31, 63, 127, 127, 511, 127, 127, 3199, 7295, 16383, 32767, 65535, 65535, 262143, 65535, 65535, 1638399, 3735551, 8388607, 16777215, 33554431] 262656 14708752 [(0, none), (1, none), (2, none), (3, none), (4, none), (5, none), (6, none), (7, none), (8, none), (10, none), (11, none), (12, none), (13, none), (9, some [12, 13]), (14, none), (15, none), (16, none), (17, none), (19, none), (20, none), (21, none), (22, none), (18, some [21, 22]), (23, none), (24, none), (25, none)] mixed ?hB ?_; (case hB => decide +kernel); simp only [Flow.textOf, List.map_cons, List.map_nil, Option.map_none, Option.map_some, Array.getD_eq_getD_getElem?, List.getElem?_toArray, List.getElem?_cons_zero, List.getElem?_cons_succ, Option.getD_some, Flow.wpFl, Flow.SameAll]) | (refine Flow.region_still mixed ?hB ?_; (case hB => decide +kernel)))
              go_at_call 12
              refine (place_at HAj.out (j : Int)).mono ?_
              rintro e w5 ⟨rfl, hf⟩
              have HO12a := hid (HO12.out.fr hf (fun _ _ h => h))
              have HO13a := hid (HO13.out.fr hf (fun _ _ h => h))
              have HFa := hid (HFj.out.trans hf (fun _ _ h => h))
              have hbs : Fr (fun _ => False) w5 (w5.alloc (.cells #[.int .i64 (mk.place j)] 3)) := by (repeat' (first | with_reducible exact Fr.refl _ _ | with_reducible apply Fr.alloc | with_reducible apply Fr.drew | with_reducible apply Fr.drewN | (with_reducible refine Fr.setCell ?_ ?_ _)))
              obtain ⟨S12, hO12, hS12⟩ := OwnAt.tight (HO12a.out.fr hbs (fun _ _ h => h))
              have HO12b := hid hO12
              have HS12 := hid hS12
              have HBS := hid hbs
              obtain ⟨i0, hi0, hz0, hz1, hz2⟩ := info_parts infoINT
              clear hf HO12 HO13 HFj HAj hO12 hS12 hbs HO12a
              go_wp2_with (first | (at_builtin; refine wpList_append_Own _ rfl (.tmp 54) (.tmp 58) 24 rfl 3 i0 (.int .i64 0) 1 8 Try.underlying24 hi0 hz0 hz1 hz2 rfl (by decide) S12 (fun _ => True) a12 j c12 (ints (places mk j)) rfl HO12b.out (some ⟨w5.heap.size, 0, none⟩) 1 1 [.int .i64 (mk.place j)] rfl (Vw.of_blk (C := #[.int .i64 (mk.place j)]) (T := 3) (Blk.new w5 _ _) True.intro rfl) (by simp [Value.oneCell']) ?b1 ?b2 ?grow) | still_step | (with_reducible refine wpStill_nil ?_) | (with_reducible refine Flow.Both.mk ?_ ?_) | (with_reducible exact True.intro) | (with_reducible refine Flow.same_mk rfl rfl rfl ?_; go_simp; done) | (with_reducible exact Flow.same_un rfl rfl rfl) | (with_reducible refine Flow.region_flow (id := 28) [0, 1, 3, 3, 15, 31, 63, 127, 127, 511, 127, 127, 3199, 7295, 16383, 32767, 65535, 65535, 262143, 65535, 65535, 1638399, 3735551, 8388607, 16777215, 33554431] 262656 14708752 [(0, none), (1, none), (2, none), (3, none), (4, none), (5, none), (6, none), (7, none), (8, none), (10, none), (11, none), (12, none), (13, none), (9, some [12, 13]), (14, none), (15, none), (16, none), (17, none), (19, none), (20, none), (21, none), (22, none), (18, some [21, 22]), (23, none), (24, none), (25, none)] mixed ?hB ?_; (case hB => decide +kernel); simp only [Flow.textOf, List.map_cons, List.map_nil, Option.map_none, Option.map_some, Array.getD_eq_getD_getElem?, List.getElem?_toArray, List.getElem?_cons_zero, List.getElem?_cons_succ, Option.getD_some, Flow.wpFl, Flow.SameAll]) | (refine Flow.region_still mixed ?hB ?_; (case hB => decide +kernel)))
              case b1 => unfold maxLen; omega
              case b2 => omega
              case grow =>
                intro a12' c12' w6 ho6 hf6
                have hSn : ∀ z, S12 z → wk.heap.size ≤ z := fun z hz => (HS12.out z hz).1
                have HO12c := hid (show OwnAt w6 3 1 (fun z => wk.heap.size ≤ z) a12' (j + 1) c12' (ints (places mk (j + 1))) by
                  rw [places_succ, ints_append]
                  exact ho6.mono (fun z _ h => by rcases h with h | h; exact hSn z h; have := HFa.out.size; have := HBS.out.size; omega))
                have HO13c := hid (own_frT (HO13a.out.fr HBS.out (fun _ _ h => h)) hf6 (fun z hz => (HS12.out z hz).2) (by decide))
                have HFc := hid ((HFa.out.trans HBS.out (fun _ _ h => h)).trans (S := fun _ => False) hf6 (fun z hz h => by have := hSn z h; omega))
                clear ho6 hf6 hSn HO12b HO13a HS12 HBS HFa
                go_wp2_with (first | fail | still_step | (with_reducible refine wpStill_nil ?_) | (with_reducible refine Flow.Both.mk ?_ ?_) | (with_reducible exact True.intro) | (with_reducible refine Flow.same_mk rfl rfl rfl ?_; go_simp; done) | (with_reducible exact Flow.same_un rfl rfl rfl) | (with_reducible refine Flow.region_flow (id := 28) [0, 1, 3, 3, 15, 31, 63, 127, 127, 511, 127, 127, 3199, 7295, 16383, 32767, 65535, 65535, 262143, 65535, 65535, 1638399, 3735551, 8388607, 16777215, 33554431] 262656 14708752 [(0, none), (1, none), (2, none), (3, none), (4, none), (5, none), (6, none), (7, none), (8, none), (10, none), (11, none), (12, none), (13, none), (9, some [12, 13]), (14, none), (15, none), (16, none), (17, none), (19, none), (20, none), (21, none), (22, none), (18, some [21, 22]), (23, none), (24, none), (25, none)] mixed ?hB ?_; (case hB => decide +kernel); simp only [Flow.textOf, List.map_cons, List.map_nil, Option.map_none, Option.map_some, Array.getD_eq_getD_getElem?, List.getElem?_toArray, List.getElem?_cons_zero, List.getElem?_cons_succ, Option.getD_some, Flow.wpFl, Flow.SameAll]) | (refine Flow.region_still mixed ?hB ?_; (case hB => decide +kernel)))
                go_at_call 13
                refine (reg_at (HA.out.fr HFc.out (fun _ _ h => h)) (j : Int) 1).mono ?_
                rintro e w7 ⟨rfl, hf⟩
                have HO12d := hid (HO12c.out.fr hf (fun _ _ h => h))
                have HO13d := hid (HO13c.out.fr hf (fun _ _ h => h))
                have HFd := hid (HFc.out.trans hf (fun _ _ h => h))
                have hbs : Fr (fun _ => False) w7 (w7.alloc (.cells #[.int .i64 (mk.reg j 1)] 2)) := by (repeat' (first | with_reducible exact Fr.refl _ _ | with_reducible apply Fr.alloc | with_reducible apply Fr.drew | with_reducible apply Fr.drewN | (with_reducible refine Fr.setCell ?_ ?_ _)))
                obtain ⟨S13, hO13, hS13⟩ := OwnAt.tight (HO13d.out.fr hbs (fun _ _ h => h))
                have HO13e := hid hO13
                have HS13 := hid hS13
                have HBS := hid hbs
                obtain ⟨i1, ki0, kz0, kz1, kz2⟩ := info_parts infoI64
                clear hf HO12c HO13c HFc hO13 hS13 hbs HO13d
                go_wp2_with (first | (at_builtin; refine wpList_append_Own _ rfl (.tmp 60) (.tmp 64) 23 rfl 2 i1 (.int .i64 0) 1 8 Try.underlying23 ki0 kz0 kz1 kz2 rfl (by decide) S13 (fun _ => True) a13 j c13 (ints (regs1 mk j)) rfl HO13e.out (some ⟨w7.heap.size, 0, none⟩) 1 1 [.int .i64 (mk.reg j 1)] rfl (Vw.of_blk (C := #[.int .i64 (mk.reg j 1)]) (T := 2) (Blk.new w7 _ _) True.intro rfl) (by simp [Value.oneCell']) ?b1 ?b2 ?grow) | still_step | (with_reducible refine wpStill_nil ?_) | (with_reducible refine Flow.Both.mk ?_ ?_) | (with_reducible exact True.intro) | (with_reducible refine Flow.same_mk rfl rfl rfl ?_; go_simp; done) | (with_reducible exact Flow.same_un rfl rfl rfl) | (with_reducible refine Flow.region_flow (id := 28) [0, 1, 3, 3, 15, 31, 63, 127, 127, 511, 127, 127, 3199, 7295, 16383, 32767, 65535, 65535, 262143, 65535, 65535, 1638399, 3735551, 8388607, 16777215, 33554431] 262656 14708752 [(0, none), (1, none), (2, none), (3, none), (4, none), (5, none), (6, none), (7, none), (8, none), (10, none), (11, none), (12, none), (13, none), (9, some [12, 13]), (14, none), (15, none), (16, none), (17, none), (19, none), (20, none), (21, none), (22, none), (18, some [21, 22]), (23, none), (24, none), (25, none)] mixed ?hB ?_; (case hB => decide +kernel); simp only [Flow.textOf, List.map_cons, List.map_nil, Option.map_none, Option.map_some, Array.getD_eq_getD_getElem?, List.getElem?_toArray, List.getElem?_cons_zero, List.getElem?_cons_succ, Option.getD_some, Flow.wpFl, Flow.SameAll]) | (refine Flow.region_still mixed ?hB ?_; (case hB => decide +kernel)))
                case b1 => unfold maxLen; omega
                case b2 => omega
                case grow =>
                  intro a13' c13' w8 ho8 hf8
                  have hSn : ∀ z, S13 z → wk.heap.size ≤ z := fun z hz => (HS13.out z hz).1
                  have HO13f := hid (show OwnAt w8 2 1 (fun z => wk.heap.size ≤ z) a13' (j + 1) c13' (ints (regs1 mk (j + 1))) by
                    rw [regs1_succ, ints_append]
                    exact ho8.mono (fun z _ h => by rcases h with h | h; exact hSn z h; have := HFd.out.size; have := HBS.out.size; omega))
                  have HO12f := hid (own_frT (HO12d.out.fr HBS.out (fun _ _ h => h)) hf8 (fun z hz => (HS13.out z hz).2) (by decide))
                  have HFf := hid ((HFd.out.trans HBS.out (fun _ _ h => h)).trans (S := fun _ => False) hf8 (fun z hz h => by have := hSn z h; omega))
                  clear ho8 hf8 hSn HO13e HO12d HS13 HBS HFd
                  go_wp2_with (first | fail | still_step | (with_reducible refine wpStill_nil ?_) | (with_reducible refine Flow.Both.mk ?_ ?_) | (with_reducible exact True.intro) | (with_reducible refine Flow.same_mk rfl rfl rfl ?_; go_simp; done) | (with_reducible exact Flow.same_un rfl rfl rfl) | (with_reducible refine Flow.region_flow (id := 28) [0, 1, 3, 3, 15, 31, 63, 127, 127, 511, 127, 127, 3199, 7295, 16383, 32767, 65535, 65535, 262143, 65535, 65535, 1638399, 3735551, 8388607, 16777215, 33554431] 262656 14708752 [(0, none), (1, none), (2, none), (3, none), (4, none), (5, none), (6, none), (7, none), (8, none), (10, none), (11, none), (12, none), (13, none), (9, some [12, 13]), (14, none), (15, none), (16, none), (17, none), (19, none), (20, none), (21, none), (22, none), (18, some [21, 22]), (23, none), (24, none), (25, none)] mixed ?hB ?_; (case hB => decide +kernel); simp only [Flow.textOf, List.map_cons, List.map_nil, Option.map_none, Option.map_some, Array.getD_eq_getD_getElem?, List.getElem?_toArray, List.getElem?_cons_zero, List.getElem?_cons_succ, Option.getD_some, Flow.wpFl, Flow.SameAll]) | (refine Flow.region_still mixed ?hB ?_; (case hB => decide +kernel)))
                  go_roundw
                  case rel =>
                    have hrl : ∃ (j_1 : Nat) (b12 b13 : Option Addr) (d12 d13 : Nat), j_1 ≤ Q ∧ (Value.int .i64 ((j : Int) + 1)) = .int .i64 j_1 ∧ (Value.slice a12' (j + 1) c12') = .slice b12 j_1 d12 ∧ (Value.slice a13' (j + 1) c13') = .slice b13 j_1 d13 ∧ OwnAt w8 3 1 (fun z => wk.heap.size ≤ z) b12 j_1 d12 (ints (places mk j_1)) ∧
                      OwnAt w8 2 1 (fun z => wk.heap.size ≤ z) b13 j_1 d13 (ints (regs1 mk j_1)) ∧ Fr (fun _ => False) wk w8 := ⟨j + 1, a12', a13', c12', c13', by omega, by go_num, rfl, rfl, HO12f.out, HO13f.out, HFf.out⟩
                    first | exact hrl | ((repeat apply Exists.intro); exact ⟨hrl, rfl⟩)
                  case measure => simp [intOf]; omega
            · obtain rfl : j = Q := by omega
              go_wp2_with (first | fail | still_step | (with_reducible refine wpStill_nil ?_) | (with_reducible refine Flow.Both.mk ?_ ?_) | (with_reducible exact True.intro) | (with_reducible refine Flow.same_mk rfl rfl rfl ?_; go_simp; done) | (with_reducible exact Flow.same_un rfl rfl rfl) | (with_reducible refine Flow.region_flow (id := 28) [0, 1, 3, 3, 15, 31, 63, 127, 127, 511, 127, 127, 3199, 7295, 16383, 32767, 65535, 65535, 262143, 65535, 65535, 1638399, 3735551, 8388607, 16777215, 33554431] 262656 14708752 [(0, none), (1, none), (2, none), (3, none), (4, none), (5, none), (6, none), (7, none), (8, none), (10, none), (11, none), (12, none), (13, none), (9, some [12, 13]), (14, none), (15, none), (16, none), (17, none), (19, none), (20, none), (21, none), (22, none), (18, some [21, 22]), (23, none), (24, none), (25, none)] mixed ?hB ?_; (case hB => decide +kernel); simp only [Flow.textOf, List.map_cons, List.map_nil, Option.map_none, Option.map_some, Array.getD_eq_getD_getElem?, List.getElem?_toArray, List.getElem?_cons_zero, List.getElem?_cons_succ, Option.getD_some, Flow.wpFl, Flow.SameAll]) | (refine Flow.region_still mixed ?hB ?_; (case hB => decide +kernel)))
              go_at_call 11
              refine (memory_at HAj.out (by rw [HMK.out]; omega)).mono ?_
              rintro e w5 ⟨am5, cm5, rfl, ho5, hf⟩
              rw [HMK.out] at ho5
              rw [HMK.out]
              have HW5 := hid ho5
              have HO12a := hid (HO12.out.fr hf (fun _ _ h => h))
              have HO13a := hid (HO13.out.fr hf (fun _ _ h => h))
              have HA5 := hid (HAj.out.fr hf (fun _ _ h => h))
              have HFa := hid ((HF.out.trans HFj.out (fun _ _ h => h)).trans hf (fun _ _ h => h))
              have hsk : wk.heap.size ≤ wr.heap.size := HFj.out.size
              have hRk : ∀ z, R z → z < wk.heap.size := HA.out.lt
              have HRK := hid hRk
              obtain ⟨g, hg⟩ : ∃ g, g = min fu 30 := ⟨_, rfl⟩
              have hmn30 := fun w => run_min30 (P := Try.prog) #[3, 3] 3 fu g hg w
              have hg30 : g ≤ 30 := by omega
              have hg0 : fu ≤ 0 → g ≤ 0 := by omega
              have HG0 := hid hg0
              have HG30 := hid hg30
              have u1 := HFa.out.cell HT1.out (fun h => h)
              clear ho5 hf HO12 HO13 HAj HFj hRk hg hg0 hg30
              go_wp2_with (first | fail | still_step | (with_reducible refine wpStill_nil ?_) | (with_reducible refine Flow.Both.mk ?_ ?_) | (with_reducible exact True.intro) | (with_reducible refine Flow.same_mk rfl rfl rfl ?_; go_simp; done) | (with_reducible exact Flow.same_un rfl rfl rfl) | (with_reducible refine Flow.region_flow (id := 28) [0, 1, 3, 3, 15, 31, 63, 127, 127, 511, 127, 127, 3199, 7295, 16383, 32767, 65535, 65535, 262143, 65535, 65535, 1638399, 3735551, 8388607, 16777215, 33554431] 262656 14708752 [(0, none), (1, none), (2, none), (3, none), (4, none), (5, none), (6, none), (7, none), (8, none), (10, none), (11, none), (12, none), (13, none), (9, some [12, 13]), (14, none), (15, none), (16, none), (17, none), (19, none), (20, none), (21, none), (22, none), (18, some [21, 22]), (23, none), (24, none), (25, none)] mixed ?hB ?_; (case hB => decide +kernel); simp only [Flow.textOf, List.map_cons, List.map_nil, Option.map_none, Option.map_some, Array.getD_eq_getD_getElem?, List.getElem?_toArray, List.getElem?_cons_zero, List.getElem?_cons_succ, Option.getD_some, Flow.wpFl, Flow.SameAll]) | (refine Flow.region_still mixed ?hB ?_; (case hB => decide +kernel)))
              go_at_call 9
              refine (turn_at HA5.out who g (by have := HG30.out; omega)).mono ?_
              rintro e w6 ⟨rfl, ha, hf⟩
              dsimp only [evV]
              have hstill := turn_still mk who g
              have hpo := fun (j : Nat) => place_other mk who g j
              have hro := fun (j : Nat) => reg_other mk who g j 1
              have hln := (turn_len mk who g).1
              obtain ⟨res, hres⟩ : ∃ res, res = mk.turn who g := ⟨_, rfl⟩
              rw [← hres] at hstill hpo hro hln ha
              rw [← hres]
              clear hres
              obtain ⟨m2, e2, x2⟩ := res
              dsimp only at hstill hpo hro hln ha ⊢
              rw [HMK.out] at hln
              have HS := hid hstill
              have HPO := hid hpo
              have HRO := hid hro
              have HLN := hid hln
              have HA6 := hid ha
              have HO12b := hid (HO12a.out.fr hf (fun z h1 h2 => by have := HRK.out z h2; omega))
              have HO13b := hid (HO13a.out.fr hf (fun z h1 h2 => by have := HRK.out z h2; omega))
              have HW6 := hid (HW5.out.fr hf (fun z h1 h2 => by have := HRK.out z h2; omega))
              have HFb := hid (HFa.out.trans (S := fun _ => False) hf (fun z hz h => by have := HRN.out z h; omega))
              clear hstill hpo hro hln ha hf HO12a HO13a HW5 HFa HA5 hmn30 HG30 u1
              go_wp2_with (first | fail | still_step | (with_reducible refine wpStill_nil ?_) | (with_reducible refine Flow.Both.mk ?_ ?_) | (with_reducible exact True.intro) | (with_reducible refine Flow.same_mk rfl rfl rfl ?_; go_simp; done) | (with_reducible exact Flow.same_un rfl rfl rfl) | (with_reducible refine Flow.region_flow (id := 28) [0, 1, 3, 3, 15, 31, 63, 127, 127, 511, 127, 127, 3199, 7295, 16383, 32767, 65535, 65535, 262143, 65535, 65535, 1638399, 3735551, 8388607, 16777215, 33554431] 262656 14708752 [(0, none), (1, none), (2, none), (3, none), (4, none), (5, none), (6, none), (7, none), (8, none), (10, none), (11, none), (12, none), (13, none), (9, some [12, 13]), (14, none), (15, none), (16, none), (17, none), (19, none), (20, none), (21, none), (22, none), (18, some [21, 22]), (23, none), (24, none), (25, none)] mixed ?hB ?_; (case hB => decide +kernel); simp only [Flow.textOf, List.map_cons, List.map_nil, Option.map_none, Option.map_some, Array.getD_eq_getD_getElem?, List.getElem?_toArray, List.getElem?_cons_zero, List.getElem?_cons_succ, Option.getD_some, Flow.wpFl, Flow.SameAll]) | (refine Flow.region_still mixed ?hB ?_; (case hB => decide +kernel)))
              go_at_call 11
              have hbe : Fr (fun _ => False) w6 (w6.alloc (.cells #[.int .i64 e2.kind, .int .i64 e2.thread, .int .i64 e2.n] 32)) := by (repeat' (first | with_reducible exact Fr.refl _ _ | with_reducible apply Fr.alloc | with_reducible apply Fr.drew | with_reducible apply Fr.drewN | (with_reducible refine Fr.setCell ?_ ?_ _)))
              have hme := memory_at (HA6.out.fr hbe (fun _ _ h => h)) (by rw [HLN.out]; omega)
              rw [HLN.out] at hme
              refine hme.mono ?_
              rintro e w7 ⟨am7, cm7, rfl, ho7, hf⟩
              have hff := hbe.trans hf (fun _ _ h => h)
              have HN7 := hid ho7
              have HE7 := hid ((Blk.new w6 #[.int .i64 e2.kind, .int .i64 e2.thread, .int .i64 e2.n] 32).fr hf (fun h => h))
              have HO12c := hid (HO12b.out.fr hff (fun _ _ h => h))
              have HO13c := hid (HO13b.out.fr hff (fun _ _ h => h))
              have HW7 := hid (HW6.out.fr hff (fun _ _ h => h))
              have HA7 := hid (HA6.out.fr hff (fun _ _ h => h))
              have HFc := hid (HFb.out.trans hff (fun _ _ h => h))
              have u1 := HFc.out.cell HT1.out (fun h => h)
              clear hbe hme ho7 hf hff HO12b HO13b HW6 HA6 HFb
              by_cases hst : fu ≤ 0 ∨ x2 = 2
              · obtain ⟨rfl, rfl, hx⟩ := HS.out (by rcases hst with h | h; exact .inl (HG0.out h); exact .inr h)
                have h3 : (fu ≤ 0 ∧ x2 = 2) ∨ (fu ≤ 0 ∧ x2 = 3) ∨ (¬ fu ≤ 0 ∧ x2 = 2) := by omega
                clear hst hx HS HG0 HPO HRO
                dsimp only [none_] at *
                have q0 := HE7.out.cell 0
                have q1 := HE7.out.cell 1
                have q2 := HE7.out.cell 2
                rcases h3 with ⟨h0, rfl⟩ | ⟨h0, rfl⟩ | ⟨h0, rfl⟩
                · skip
                  go_wp2_with (first | fail | still_step | (with_reducible refine wpStill_nil ?_) | (with_reducible refine Flow.Both.mk ?_ ?_) | (with_reducible exact True.intro) | (with_reducible refine Flow.same_mk rfl rfl rfl ?_; go_simp; done) | (with_reducible exact Flow.same_un rfl rfl rfl) | (with_reducible refine Flow.region_flow (id := 28) [0, 1, 3, 3, 15, 31, 63, 127, 127, 511, 127, 127, 3199, 7295, 16383, 32767, 65535, 65535, 262143, 65535, 65535, 1638399, 3735551, 8388607, 16777215, 33554431] 262656 14708752 [(0, none), (1, none), (2, none), (3, none), (4, none), (5, none), (6, none), (7, none), (8, none), (10, none), (11, none), (12, none), (13, none), (9, some [12, 13]), (14, none), (15, none), (16, none), (17, none), (19, none), (20, none), (21, none), (22, none), (18, some [21, 22]), (23, none), (24, none), (25, none)] mixed ?hB ?_; (case hB => decide +kernel); simp only [Flow.textOf, List.map_cons, List.map_nil, Option.map_none, Option.map_some, Array.getD_eq_getD_getElem?, List.getElem?_toArray, List.getElem?_cons_zero, List.getElem?_cons_succ, Option.getD_some, Flow.wpFl, Flow.SameAll]) | (refine Flow.region_still mixed ?hB ?_; (case hB => decide +kernel)))
                  go_at_call 10
                  have hnum := numbers_is _ _ am5 am7 cm5 cm7 m2.mem m2.mem w7 (by rw [HLN.out]; exact HW7.out.vw) (by rw [HLN.out]; exact HN7.out.vw) (by rw [HLN.out]; omega)
                  rw [HLN.out, show decide (m2.mem = m2.mem) = true from by simp] at hnum
                  refine hnum.mono ?_
                  rintro e w8 ⟨rfl, hf⟩
                  have HO12d := hid (HO12c.out.fr hf (fun _ _ h => h))
                  have HO13d := hid (HO13c.out.fr hf (fun _ _ h => h))
                  have HA8 := hid (HA7.out.fr hf (fun _ _ h => h))
                  have HFd := hid (HFc.out.trans hf (fun _ _ h => h))
                  clear hf hnum HO12c HO13c HA7 HFc HW7 HN7 HE7 q0 q1 q2 u1
                  have HEQ : Hid (∀ x : Nat, (true = true ∨ (x : Int) ≠ who) → m2.place x = m2.place x ∧ m2.reg x 1 = m2.reg x 1) := hid (fun x _ => ⟨rfl, rfl⟩)
                  go_wp2_with (first | fail | still_step | (with_reducible refine wpStill_nil ?_) | (with_reducible refine Flow.Both.mk ?_ ?_) | (with_reducible exact True.intro) | (with_reducible refine Flow.same_mk rfl rfl rfl ?_; go_simp; done) | (with_reducible exact Flow.same_un rfl rfl rfl) | (with_reducible refine Flow.region_flow (id := 28) [0, 1, 3, 3, 15, 31, 63, 127, 127, 511, 127, 127, 3199, 7295, 16383, 32767, 65535, 65535, 262143, 65535, 65535, 1638399, 3735551, 8388607, 16777215, 33554431] 262656 14708752 [(0, none), (1, none), (2, none), (3, none), (4, none), (5, none), (6, none), (7, none), (8, none), (10, none), (11, none), (12, none), (13, none), (9, some [12, 13]), (14, none), (15, none), (16, none), (17, none), (19, none), (20, none), (21, none), (22, none), (18, some [21, 22]), (23, none), (24, none), (25, none)] mixed ?hB ?_; (case hB => decide +kernel); simp only [Flow.textOf, List.map_cons, List.map_nil, Option.map_none, Option.map_some, Array.getD_eq_getD_getElem?, List.getElem?_toArray, List.getElem?_cons_zero, List.getElem?_cons_succ, Option.getD_some, Flow.wpFl, Flow.SameAll]) | (refine Flow.region_still mixed ?hB ?_; (case hB => decide +kernel)))
                  go_loopw [20] (fun i wz => ∃ x : Nat, x ≤ j ∧ i = .int .i64 x ∧ Fr (fun _ => False) w8 wz) (fun i _ => j - (intOf i).toNat)
                  case atStart => exact ⟨0, Nat.zero_le _, rfl, Fr.refl _ _⟩
                  case round =>
                    obtain ⟨x, hx, rfl, hf⟩ := hrel
                    have HFz := hid hf
                    clear hf
                    by_cases hlx : x < j
                    · have hn12 : ints (places m2 j) ≠ [] := fun h => by have := congrArg List.length h; rw [ints_length, places_length, List.length_nil] at this; omega
                      have hn13 : ints (regs1 m2 j) ≠ [] := fun h => by have := congrArg List.length h; rw [ints_length, regs1_length, List.length_nil] at this; omega
                      obtain ⟨r12, o12, rfl, _, hc12⟩ := (HO12d.out.fr HFz.out (fun _ _ h => h)).vw.cell hn12
                      obtain ⟨r13, o13, rfl, _, hc13⟩ := (HO13d.out.fr HFz.out (fun _ _ h => h)).vw.cell hn13
                      have e12 := hc12 x (.int .i64 (m2.place x)) (by unfold ints places; simp [hlx])
                      have e13 := hc13 x (.int .i64 (m2.reg x 1)) (by unfold ints regs1; simp [hlx])
                      clear hn12 hn13 hc12 hc13
                      by_cases hsk : true = false ∧ (x : Int) = who
                      · obtain ⟨hs1, hs2⟩ := hsk
                        first
                        | exact absurd hs1 (by decide)
                        | (clear hs1
                           subst hs2
                           go_wp2_with (first | fail | still_step | (with_reducible refine wpStill_nil ?_) | (with_reducible refine Flow.Both.mk ?_ ?_) | (with_reducible exact True.intro) | (with_reducible refine Flow.same_mk rfl rfl rfl ?_; go_simp; done) | (with_reducible exact Flow.same_un rfl rfl rfl) | (with_reducible refine Flow.region_flow (id := 28) [0, 1, 3, 3, 15, 31, 63, 127, 127, 511, 127, 127, 3199, 7295, 16383, 32767, 65535, 65535, 262143, 65535, 65535, 1638399, 3735551, 8388607, 16777215, 33554431] 262656 14708752 [(0, none), (1, none), (2, none), (3, none), (4, none), (5, none), (6, none), (7, none), (8, none), (10, none), (11, none), (12, none), (13, none), (9, some [12, 13]), (14, none), (15, none), (16, none), (17, none), (19, none), (20, none), (21, none), (22, none), (18, some [21, 22]), (23, none), (24, none), (25, none)] mixed ?hB ?_; (case hB => decide +kernel); simp only [Flow.textOf, List.map_cons, List.map_nil, Option.map_none, Option.map_some, Array.getD_eq_getD_getElem?, List.getElem?_toArray, List.getElem?_cons_zero, List.getElem?_cons_succ, Option.getD_some, Flow.wpFl, Flow.SameAll]) | (refine Flow.region_still mixed ?hB ?_; (case hB => decide +kernel)))
                           go_roundw
                           case rel =>
                             have hrl : ∃ x_1 : Nat, x_1 ≤ j ∧ (Value.int .i64 ((x : Int) + 1)) = .int .i64 x_1 ∧ Fr (fun _ => False) w8 wr.drew := ⟨x + 1, by omega, by go_num, HFz.out.drew⟩
                             first | exact hrl | ((repeat apply Exists.intro); exact ⟨hrl, rfl⟩)
                           case measure => simp [intOf]; omega)
                      · obtain ⟨hpe, hre⟩ := HEQ.out x (by first | (exact Or.inl rfl) | (exact Or.inr (fun h => hsk ⟨rfl, h⟩)) | (simp; done) | (simp; exact fun h => hsk ⟨by simp, h⟩))
                        have hxn : true = true ∨ ¬ ((x : Int) = who) := (by first | (exact Or.inl rfl) | (exact Or.inr (fun h => hsk ⟨by simp, h⟩)))
                        first | (have hxb : ((x : Int) != who) = true := (by simpa using hxn)) | skip
                        go_wp2_with (first | fail | still_step | (with_reducible refine wpStill_nil ?_) | (with_reducible refine Flow.Both.mk ?_ ?_) | (with_reducible exact True.intro) | (with_reducible refine Flow.same_mk rfl rfl rfl ?_; go_simp; done) | (with_reducible exact Flow.same_un rfl rfl rfl) | (with_reducible refine Flow.region_flow (id := 28) [0, 1, 3, 3, 15, 31, 63, 127, 127, 511, 127, 127, 3199, 7295, 16383, 32767, 65535, 65535, 262143, 65535, 65535, 1638399, 3735551, 8388607, 16777215, 33554431] 262656 14708752 [(0, none), (1, none), (2, none), (3, none), (4, none), (5, none), (6, none), (7, none), (8, none), (10, none), (11, none), (12, none), (13, none), (9, some [12, 13]), (14, none), (15, none), (16, none), (17, none), (19, none), (20, none), (21, none), (22, none), (18, some [21, 22]), (23, none), (24, none), (25, none)] mixed ?hB ?_; (case hB => decide +kernel); simp only [Flow.textOf, List.map_cons, List.map_nil, Option.map_none, Option.map_some, Array.getD_eq_getD_getElem?, List.getElem?_toArray, List.getElem?_cons_zero, List.getElem?_cons_succ, Option.getD_some, Flow.wpFl, Flow.SameAll]) | (refine Flow.region_still mixed ?hB ?_; (case hB => decide +kernel)))
                        go_at_call 12
                        refine (place_at (HA8.out.fr (HFz.out.drew) (fun _ _ h => h)) (x : Int)).mono ?_
                        rintro e v1 ⟨rfl, hf⟩
                        try rw [hpe]
                        have e12a := hf.cell e12 (fun h => h)
                        have e13a := hf.cell e13 (fun h => h)
                        have HFy := hid (HFz.out.drew.trans hf (fun _ _ h => h))
                        clear hf
                        go_wp2_with (first | fail | still_step | (with_reducible refine wpStill_nil ?_) | (with_reducible refine Flow.Both.mk ?_ ?_) | (with_reducible exact True.intro) | (with_reducible refine Flow.same_mk rfl rfl rfl ?_; go_simp; done) | (with_reducible exact Flow.same_un rfl rfl rfl) | (with_reducible refine Flow.region_flow (id := 28) [0, 1, 3, 3, 15, 31, 63, 127, 127, 511, 127, 127, 3199, 7295, 16383, 32767, 65535, 65535, 262143, 65535, 65535, 1638399, 3735551, 8388607, 16777215, 33554431] 262656 14708752 [(0, none), (1, none), (2, none), (3, none), (4, none), (5, none), (6, none), (7, none), (8, none), (10, none), (11, none), (12, none), (13, none), (9, some [12, 13]), (14, none), (15, none), (16, none), (17, none), (19, none), (20, none), (21, none), (22, none), (18, some [21, 22]), (23, none), (24, none), (25, none)] mixed ?hB ?_; (case hB => decide +kernel); simp only [Flow.textOf, List.map_cons, List.map_nil, Option.map_none, Option.map_some, Array.getD_eq_getD_getElem?, List.getElem?_toArray, List.getElem?_cons_zero, List.getElem?_cons_succ, Option.getD_some, Flow.wpFl, Flow.SameAll]) | (refine Flow.region_still mixed ?hB ?_; (case hB => decide +kernel)))
                        go_at_call 13
                        refine (reg_at (HA8.out.fr (HFy.out) (fun _ _ h => h)) (x : Int) 1).mono ?_
                        rintro e v2 ⟨rfl, hf⟩
                        try rw [hre]
                        have e13b := hf.cell e13a (fun h => h)
                        have e12b := hf.cell e12a (fun h => h)
                        have HFx := hid (HFy.out.trans hf (fun _ _ h => h))
                        clear hf
                        go_wp2_with (first | fail | still_step | (with_reducible refine wpStill_nil ?_) | (with_reducible refine Flow.Both.mk ?_ ?_) | (with_reducible exact True.intro) | (with_reducible refine Flow.same_mk rfl rfl rfl ?_; go_simp; done) | (with_reducible exact Flow.same_un rfl rfl rfl) | (with_reducible refine Flow.region_flow (id := 28) [0, 1, 3, 3, 15, 31, 63, 127, 127, 511, 127, 127, 3199, 7295, 16383, 32767, 65535, 65535, 262143, 65535, 65535, 1638399, 3735551, 8388607, 16777215, 33554431] 262656 14708752 [(0, none), (1, none), (2, none), (3, none), (4, none), (5, none), (6, none), (7, none), (8, none), (10, none), (11, none), (12, none), (13, none), (9, some [12, 13]), (14, none), (15, none), (16, none), (17, none), (19, none), (20, none), (21, none), (22, none), (18, some [21, 22]), (23, none), (24, none), (25, none)] mixed ?hB ?_; (case hB => decide +kernel); simp only [Flow.textOf, List.map_cons, List.map_nil, Option.map_none, Option.map_some, Array.getD_eq_getD_getElem?, List.getElem?_toArray, List.getElem?_cons_zero, List.getElem?_cons_succ, Option.getD_some, Flow.wpFl, Flow.SameAll]) | (refine Flow.region_still mixed ?hB ?_; (case hB => decide +kernel)))
                        go_roundw
                        case rel =>
                          have hrl : ∃ x_1 : Nat, x_1 ≤ j ∧ (Value.int .i64 ((x : Int) + 1)) = .int .i64 x_1 ∧ Fr (fun _ => False) w8 v2 := ⟨x + 1, by omega, by go_num, HFx.out⟩
                          first | exact hrl | ((repeat apply Exists.intro); exact ⟨hrl, rfl⟩)
                        case measure => simp [intOf]; omega
                    · obtain rfl : x = j := by omega
                      have HAe := hid (HA8.out.fr HFz.out (fun _ _ h => h))
                      have HFe := hid (HFd.out.trans HFz.out (fun _ _ h => h))
                      go_wp2_with (first | fail | still_step | (with_reducible refine wpStill_nil ?_) | (with_reducible refine Flow.Both.mk ?_ ?_) | (with_reducible exact True.intro) | (with_reducible refine Flow.same_mk rfl rfl rfl ?_; go_simp; done) | (with_reducible exact Flow.same_un rfl rfl rfl) | (with_reducible refine Flow.region_flow (id := 28) [0, 1, 3, 3, 15, 31, 63, 127, 127, 511, 127, 127, 3199, 7295, 16383, 32767, 65535, 65535, 262143, 65535, 65535, 1638399, 3735551, 8388607, 16777215, 33554431] 262656 14708752 [(0, none), (1, none), (2, none), (3, none), (4, none), (5, none), (6, none), (7, none), (8, none), (10, none), (11, none), (12, none), (13, none), (9, some [12, 13]), (14, none), (15, none), (16, none), (17, none), (19, none), (20, none), (21, none), (22, none), (18, some [21, 22]), (23, none), (24, none), (25, none)] mixed ?hB ?_; (case hB => decide +kernel); simp only [Flow.textOf, List.map_cons, List.map_nil, Option.map_none, Option.map_some, Array.getD_eq_getD_getElem?, List.getElem?_toArray, List.getElem?_cons_zero, List.getElem?_cons_succ, Option.getD_some, Flow.wpFl, Flow.SameAll]) | (refine Flow.region_still mixed ?hB ?_; (case hB => decide +kernel)))
                      go_roundw
                      case rel =>
                        have hrl : ∃ (k_1 : Nat) (m : M), k_1 ≤ T ∧ (Value.int .i64 ((k : Int) + 1)) = .int .i64 k_1 ∧ At wr R A m ∧ m.mem.length = L ∧ Fr (fun _ => False) w wr := ⟨k + 1, m2, by omega, by go_num, HAe.out, HLN.out, HFe.out⟩
                        first | exact hrl | ((repeat apply Exists.intro); exact ⟨hrl, rfl⟩)
                      case measure => simp [intOf]; omega
                · skip
                  go_wp2_with (first | fail | still_step | (with_reducible refine wpStill_nil ?_) | (with_reducible refine Flow.Both.mk ?_ ?_) | (with_reducible exact True.intro) | (with_reducible refine Flow.same_mk rfl rfl rfl ?_; go_simp; done) | (with_reducible exact Flow.same_un rfl rfl rfl) | (with_reducible refine Flow.region_flow (id := 28) [0, 1, 3, 3, 15, 31, 63, 127, 127, 511, 127, 127, 3199, 7295, 16383, 32767, 65535, 65535, 262143, 65535, 65535, 1638399, 3735551, 8388607, 16777215, 33554431] 262656 14708752 [(0, none), (1, none), (2, none), (3, none), (4, none), (5, none), (6, none), (7, none), (8, none), (10, none), (11, none), (12, none), (13, none), (9, some [12, 13]), (14, none), (15, none), (16, none), (17, none), (19, none), (20, none), (21, none), (22, none), (18, some [21, 22]), (23, none), (24, none), (25, none)] mixed ?hB ?_; (case hB => decide +kernel); simp only [Flow.textOf, List.map_cons, List.map_nil, Option.map_none, Option.map_some, Array.getD_eq_getD_getElem?, List.getElem?_toArray, List.getElem?_cons_zero, List.getElem?_cons_succ, Option.getD_some, Flow.wpFl, Flow.SameAll]) | (refine Flow.region_still mixed ?hB ?_; (case hB => decide +kernel)))
                  go_at_call 10
                  have hnum := numbers_is _ _ am5 am7 cm5 cm7 m2.mem m2.mem w7 (by rw [HLN.out]; exact HW7.out.vw) (by rw [HLN.out]; exact HN7.out.vw) (by rw [HLN.out]; omega)
                  rw [HLN.out, show decide (m2.mem = m2.mem) = true from by simp] at hnum
                  refine hnum.mono ?_
                  rintro e w8 ⟨rfl, hf⟩
                  have HO12d := hid (HO12c.out.fr hf (fun _ _ h => h))
                  have HO13d := hid (HO13c.out.fr hf (fun _ _ h => h))
                  have HA8 := hid (HA7.out.fr hf (fun _ _ h => h))
                  have HFd := hid (HFc.out.trans hf (fun _ _ h => h))
                  clear hf hnum HO12c HO13c HA7 HFc HW7 HN7 HE7 q0 q1 q2 u1
                  have HEQ : Hid (∀ x : Nat, (true = true ∨ (x : Int) ≠ who) → m2.place x = m2.place x ∧ m2.reg x 1 = m2.reg x 1) := hid (fun x _ => ⟨rfl, rfl⟩)
                  go_wp2_with (first | fail | still_step | (with_reducible refine wpStill_nil ?_) | (with_reducible refine Flow.Both.mk ?_ ?_) | (with_reducible exact True.intro) | (with_reducible refine Flow.same_mk rfl rfl rfl ?_; go_simp; done) | (with_reducible exact Flow.same_un rfl rfl rfl) | (with_reducible refine Flow.region_flow (id := 28) [0, 1, 3, 3, 15, 31, 63, 127, 127, 511, 127, 127, 3199, 7295, 16383, 32767, 65535, 65535, 262143, 65535, 65535, 1638399, 3735551, 8388607, 16777215, 33554431] 262656 14708752 [(0, none), (1, none), (2, none), (3, none), (4, none), (5, none), (6, none), (7, none), (8, none), (10, none), (11, none), (12, none), (13, none), (9, some [12, 13]), (14, none), (15, none), (16, none), (17, none), (19, none), (20, none), (21, none), (22, none), (18, some [21, 22]), (23, none), (24, none), (25, none)] mixed ?hB ?_; (case hB => decide +kernel); simp only [Flow.textOf, List.map_cons, List.map_nil, Option.map_none, Option.map_some, Array.getD_eq_getD_getElem?, List.getElem?_toArray, List.getElem?_cons_zero, List.getElem?_cons_succ, Option.getD_some, Flow.wpFl, Flow.SameAll]) | (refine Flow.region_still mixed ?hB ?_; (case hB => decide +kernel)))
                  go_loopw [20] (fun i wz => ∃ x : Nat, x ≤ j ∧ i = .int .i64 x ∧ Fr (fun _ => False) w8 wz) (fun i _ => j - (intOf i).toNat)
                  case atStart => exact ⟨0, Nat.zero_le _, rfl, Fr.refl _ _⟩
                  case round =>
                    obtain ⟨x, hx, rfl, hf⟩ := hrel
                    have HFz := hid hf
                    clear hf
                    by_cases hlx : x < j
                    · have hn12 : ints (places m2 j) ≠ [] := fun h => by have := congrArg List.length h; rw [ints_length, places_length, List.length_nil] at this; omega
                      have hn13 : ints (regs1 m2 j) ≠ [] := fun h => by have := congrArg List.length h; rw [ints_length, regs1_length, List.length_nil] at this; omega
                      obtain ⟨r12, o12, rfl, _, hc12⟩ := (HO12d.out.fr HFz.out (fun _ _ h => h)).vw.cell hn12
                      obtain ⟨r13, o13, rfl, _, hc13⟩ := (HO13d.out.fr HFz.out (fun _ _ h => h)).vw.cell hn13
                      have e12 := hc12 x (.int .i64 (m2.place x)) (by unfold ints places; simp [hlx])
                      have e13 := hc13 x (.int .i64 (m2.reg x 1)) (by unfold ints regs1; simp [hlx])
                      clear hn12 hn13 hc12 hc13
                      by_cases hsk : true = false ∧ (x : Int) = who
                      · obtain ⟨hs1, hs2⟩ := hsk
                        first
                        | exact absurd hs1 (by decide)
                        | (clear hs1
                           subst hs2
                           go_wp2_with (first | fail | still_step | (with_reducible refine wpStill_nil ?_) | (with_reducible refine Flow.Both.mk ?_ ?_) | (with_reducible exact True.intro) | (with_reducible refine Flow.same_mk rfl rfl rfl ?_; go_simp; done) | (with_reducible exact Flow.same_un rfl rfl rfl) | (with_reducible refine Flow.region_flow (id := 28) [0, 1, 3, 3, 15, 31, 63, 127, 127, 511, 127, 127, 3199, 7295, 16383, 32767, 65535, 65535, 262143, 65535, 65535, 1638399, 3735551, 8388607, 16777215, 33554431] 262656 14708752 [(0, none), (1, none), (2, none), (3, none), (4, none), (5, none), (6, none), (7, none), (8, none), (10, none), (11, none), (12, none), (13, none), (9, some [12, 13]), (14, none), (15, none), (16, none), (17, none), (19, none), (20, none), (21, none), (22, none), (18, some [21, 22]), (23, none), (24, none), (25, none)] mixed ?hB ?_; (case hB => decide +kernel); simp only [Flow.textOf, List.map_cons, List.map_nil, Option.map_none, Option.map_some, Array.getD_eq_getD_getElem?, List.getElem?_toArray, List.getElem?_cons_zero, List.getElem?_cons_succ, Option.getD_some, Flow.wpFl, Flow.SameAll]) | (refine Flow.region_still mixed ?hB ?_; (case hB => decide +kernel)))
                           go_roundw
                           case rel =>
                             have hrl : ∃ x_1 : Nat, x_1 ≤ j ∧ (Value.int .i64 ((x : Int) + 1)) = .int .i64 x_1 ∧ Fr (fun _ => False) w8 wr.drew := ⟨x + 1, by omega, by go_num, HFz.out.drew⟩
                             first | exact hrl | ((repeat apply Exists.intro); exact ⟨hrl, rfl⟩)
                           case measure => simp [intOf]; omega)
                      · obtain ⟨hpe, hre⟩ := HEQ.out x (by first | (exact Or.inl rfl) | (exact Or.inr (fun h => hsk ⟨rfl, h⟩)) | (simp; done) | (simp; exact fun h => hsk ⟨by simp, h⟩))
                        have hxn : true = true ∨ ¬ ((x : Int) = who) := (by first | (exact Or.inl rfl) | (exact Or.inr (fun h => hsk ⟨by simp, h⟩)))
                        first | (have hxb : ((x : Int) != who) = true := (by simpa using hxn)) | skip
                        go_wp2_with (first | fail | still_step | (with_reducible refine wpStill_nil ?_) | (with_reducible refine Flow.Both.mk ?_ ?_) | (with_reducible exact True.intro) | (with_reducible refine Flow.same_mk rfl rfl rfl ?_; go_simp; done) | (with_reducible exact Flow.same_un rfl rfl rfl) | (with_reducible refine Flow.region_flow (id := 28) [0, 1, 3, 3, 15, 31, 63, 127, 127, 511, 127, 127, 3199, 7295, 16383, 32767, 65535, 65535, 262143, 65535, 65535, 1638399, 3735551, 8388607, 16777215, 33554431] 262656 14708752 [(0, none), (1, none), (2, none), (3, none), (4, none), (5, none), (6, none), (7, none), (8, none), (10, none), (11, none), (12, none), (13, none), (9, some [12, 13]), (14, none), (15, none), (16, none), (17, none), (19, none), (20, none), (21, none), (22, none), (18, some [21, 22]), (23, none), (24, none), (25, none)] mixed ?hB ?_; (case hB => decide +kernel); simp only [Flow.textOf, List.map_cons, List.map_nil, Option.map_none, Option.map_some, Array.getD_eq_getD_getElem?, List.getElem?_toArray, List.getElem?_cons_zero, List.getElem?_cons_succ, Option.getD_some, Flow.wpFl, Flow.SameAll]) | (refine Flow.region_still mixed ?hB ?_; (case hB => decide +kernel)))
                        go_at_call 12
                        refine (place_at (HA8.out.fr (HFz.out.drew) (fun _ _ h => h)) (x : Int)).mono ?_
                        rintro e v1 ⟨rfl, hf⟩
                        try rw [hpe]
                        have e12a := hf.cell e12 (fun h => h)
                        have e13a := hf.cell e13 (fun h => h)
                        have HFy := hid (HFz.out.drew.trans hf (fun _ _ h => h))
                        clear hf
                        go_wp2_with (first | fail | still_step | (with_reducible refine wpStill_nil ?_) | (with_reducible refine Flow.Both.mk ?_ ?_) | (with_reducible exact True.intro) | (with_reducible refine Flow.same_mk rfl rfl rfl ?_; go_simp; done) | (with_reducible exact Flow.same_un rfl rfl rfl) | (with_reducible refine Flow.region_flow (id := 28) [0, 1, 3, 3, 15, 31, 63, 127, 127, 511, 127, 127, 3199, 7295, 16383, 32767, 65535, 65535, 262143, 65535, 65535, 1638399, 3735551, 8388607, 16777215, 33554431] 262656 14708752 [(0, none), (1, none), (2, none), (3, none), (4, none), (5, none), (6, none), (7, none), (8, none), (10, none), (11, none), (12, none), (13, none), (9, some [12, 13]), (14, none), (15, none), (16, none), (17, none), (19, none), (20, none), (21, none), (22, none), (18, some [21, 22]), (23, none), (24, none), (25, none)] mixed ?hB ?_; (case hB => decide +kernel); simp only [Flow.textOf, List.map_cons, List.map_nil, Option.map_none, Option.map_some, Array.getD_eq_getD_getElem?, List.getElem?_toArray, List.getElem?_cons_zero, List.getElem?_cons_succ, Option.getD_some, Flow.wpFl, Flow.SameAll]) | (refine Flow.region_still mixed ?hB ?_; (case hB => decide +kernel)))
                        go_at_call 13
                        refine (reg_at (HA8.out.fr (HFy.out) (fun _ _ h => h)) (x : Int) 1).mono ?_
                        rintro e v2 ⟨rfl, hf⟩
                        try rw [hre]
                        have e13b := hf.cell e13a (fun h => h)
                        have e12b := hf.cell e12a (fun h => h)
                        have HFx := hid (HFy.out.trans hf (fun _ _ h => h))
                        clear hf
                        go_wp2_with (first | fail | still_step | (with_reducible refine wpStill_nil ?_) | (with_reducible refine Flow.Both.mk ?_ ?_) | (with_reducible exact True.intro) | (with_reducible refine Flow.same_mk rfl rfl rfl ?_; go_simp; done) | (with_reducible exact Flow.same_un rfl rfl rfl) | (with_reducible refine Flow.region_flow (id := 28) [0, 1, 3, 3, 15, 31, 63, 127, 127, 511, 127, 127, 3199, 7295, 16383, 32767, 65535, 65535, 262143, 65535, 65535, 1638399, 3735551, 8388607, 16777215, 33554431] 262656 14708752 [(0, none), (1, none), (2, none), (3, none), (4, none), (5, none), (6, none), (7, none), (8, none), (10, none), (11, none), (12, none), (13, none), (9, some [12, 13]), (14, none), (15, none), (16, none), (17, none), (19, none), (20, none), (21, none), (22, none), (18, some [21, 22]), (23, none), (24, none), (25, none)] mixed ?hB ?_; (case hB => decide +kernel); simp only [Flow.textOf, List.map_cons, List.map_nil, Option.map_none, Option.map_some, Array.getD_eq_getD_getElem?, List.getElem?_toArray, List.getElem?_cons_zero, List.getElem?_cons_succ, Option.getD_some, Flow.wpFl, Flow.SameAll]) | (refine Flow.region_still mixed ?hB ?_; (case hB => decide +kernel)))
                        go_roundw
                        case rel =>
                          have hrl : ∃ x_1 : Nat, x_1 ≤ j ∧ (Value.int .i64 ((x : Int) + 1)) = .int .i64 x_1 ∧ Fr (fun _ => False) w8 v2 := ⟨x + 1, by omega, by go_num, HFx.out⟩
                          first | exact hrl | ((repeat apply Exists.intro); exact ⟨hrl, rfl⟩)
                        case measure => simp [intOf]; omega
                    · obtain rfl : x = j := by omega
                      have HAe := hid (HA8.out.fr HFz.out (fun _ _ h => h))
                      have HFe := hid (HFd.out.trans HFz.out (fun _ _ h => h))
                      go_wp2_with (first | fail | still_step | (with_reducible refine wpStill_nil ?_) | (with_reducible refine Flow.Both.mk ?_ ?_) | (with_reducible exact True.intro) | (with_reducible refine Flow.same_mk rfl rfl rfl ?_; go_simp; done) | (with_reducible exact Flow.same_un rfl rfl rfl) | (with_reducible refine Flow.region_flow (id := 28) [0, 1, 3, 3, 15, 31, 63, 127, 127, 511, 127, 127, 3199, 7295, 16383, 32767, 65535, 65535, 262143, 65535, 65535, 1638399, 3735551, 8388607, 16777215, 33554431] 262656 14708752 [(0, none), (1, none), (2, none), (3, none), (4, none), (5, none), (6, none), (7, none), (8, none), (10, none), (11, none), (12, none), (13, none), (9, some [12, 13]), (14, none), (15, none), (16, none), (17, none), (19, none), (20, none), (21, none), (22, none), (18, some [21, 22]), (23, none), (24, none), (25, none)] mixed ?hB ?_; (case hB => decide +kernel); simp only [Flow.textOf, List.map_cons, List.map_nil, Option.map_none, Option.map_some, Array.getD_eq_getD_getElem?, List.getElem?_toArray, List.getElem?_cons_zero, List.getElem?_cons_succ, Option.getD_some, Flow.wpFl, Flow.SameAll]) | (refine Flow.region_still mixed ?hB ?_; (case hB => decide +kernel)))
                      go_roundw
                      case rel =>
                        have hrl : ∃ (k_1 : Nat) (m : M), k_1 ≤ T ∧ (Value.int .i64 ((k : Int) + 1)) = .int .i64 k_1 ∧ At wr R A m ∧ m.mem.length = L ∧ Fr (fun _ => False) w wr := ⟨k + 1, m2, by omega, by go_num, HAe.out, HLN.out, HFe.out⟩
                        first | exact hrl | ((repeat apply Exists.intro); exact ⟨hrl, rfl⟩)
                      case measure => simp [intOf]; omega
                · skip
                  go_wp2_with (first | fail | still_step | (with_reducible refine wpStill_nil ?_) | (with_reducible refine Flow.Both.mk ?_ ?_) | (with_reducible exact True.intro) | (with_reducible refine Flow.same_mk rfl rfl rfl ?_; go_simp; done) | (with_reducible exact Flow.same_un rfl rfl rfl) | (with_reducible refine Flow.region_flow (id := 28) [0, 1, 3, 3, 15, 31, 63, 127, 127, 511, 127, 127, 3199, 7295, 16383, 32767, 65535, 65535, 262143, 65535, 65535, 1638399, 3735551, 8388607, 16777215, 33554431] 262656 14708752 [(0, none), (1, none), (2, none), (3, none), (4, none), (5, none), (6, none), (7, none), (8, none), (10, none), (11, none), (12, none), (13, none), (9, some [12, 13]), (14, none), (15, none), (16, none), (17, none), (19, none), (20, none), (21, none), (22, none), (18, some [21, 22]), (23, none), (24, none), (25, none)] mixed ?hB ?_; (case hB => decide +kernel); simp only [Flow.textOf, List.map_cons, List.map_nil, Option.map_none, Option.map_some, Array.getD_eq_getD_getElem?, List.getElem?_toArray, List.getElem?_cons_zero, List.getElem?_cons_succ, Option.getD_some, Flow.wpFl, Flow.SameAll]) | (refine Flow.region_still mixed ?hB ?_; (case hB => decide +kernel)))
                  go_at_call 10
                  have hnum := numbers_is _ _ am5 am7 cm5 cm7 m2.mem m2.mem w7 (by rw [HLN.out]; exact HW7.out.vw) (by rw [HLN.out]; exact HN7.out.vw) (by rw [HLN.out]; omega)
                  rw [HLN.out, show decide (m2.mem = m2.mem) = true from by simp] at hnum
                  refine hnum.mono ?_
                  rintro e w8 ⟨rfl, hf⟩
                  have HO12d := hid (HO12c.out.fr hf (fun _ _ h => h))
                  have HO13d := hid (HO13c.out.fr hf (fun _ _ h => h))
                  have HA8 := hid (HA7.out.fr hf (fun _ _ h => h))
                  have HFd := hid (HFc.out.trans hf (fun _ _ h => h))
                  clear hf hnum HO12c HO13c HA7 HFc HW7 HN7 HE7 q0 q1 q2 u1
                  have HEQ : Hid (∀ x : Nat, (true = true ∨ (x : Int) ≠ who) → m2.place x = m2.place x ∧ m2.reg x 1 = m2.reg x 1) := hid (fun x _ => ⟨rfl, rfl⟩)
                  go_wp2_with (first | fail | still_step | (with_reducible refine wpStill_nil ?_) | (with_reducible refine Flow.Both.mk ?_ ?_) | (with_reducible exact True.intro) | (with_reducible refine Flow.same_mk rfl rfl rfl ?_; go_simp; done) | (with_reducible exact Flow.same_un rfl rfl rfl) | (with_reducible refine Flow.region_flow (id := 28) [0, 1, 3, 3, 15, 31, 63, 127, 127, 511, 127, 127, 3199, 7295, 16383, 32767, 65535, 65535, 262143, 65535, 65535, 1638399, 3735551, 8388607, 16777215, 33554431] 262656 14708752 [(0, none), (1, none), (2, none), (3, none), (4, none), (5, none), (6, none), (7, none), (8, none), (10, none), (11, none), (12, none), (13, none), (9, some [12, 13]), (14, none), (15, none), (16, none), (17, none), (19, none), (20, none), (21, none), (22, none), (18, some [21, 22]), (23, none), (24, none), (25, none)] mixed ?hB ?_; (case hB => decide +kernel); simp only [Flow.textOf, List.map_cons, List.map_nil, Option.map_none, Option.map_some, Array.getD_eq_getD_getElem?, List.getElem?_toArray, List.getElem?_cons_zero, List.getElem?_cons_succ, Option.getD_some, Flow.wpFl, Flow.SameAll]) | (refine Flow.region_still mixed ?hB ?_; (case hB => decide +kernel)))
                  go_loopw [20] (fun i wz => ∃ x : Nat, x ≤ j ∧ i = .int .i64 x ∧ Fr (fun _ => False) w8 wz) (fun i _ => j - (intOf i).toNat)
                  case atStart => exact ⟨0, Nat.zero_le _, rfl, Fr.refl _ _⟩
                  case round =>
                    obtain ⟨x, hx, rfl, hf⟩ := hrel
                    have HFz := hid hf
                    clear hf
                    by_cases hlx : x < j
                    · have hn12 : ints (places m2 j) ≠ [] := fun h => by have := congrArg List.length h; rw [ints_length, places_length, List.length_nil] at this; omega
                      have hn13 : ints (regs1 m2 j) ≠ [] := fun h => by have := congrArg List.length h; rw [ints_length, regs1_length, List.length_nil] at this; omega
                      obtain ⟨r12, o12, rfl, _, hc12⟩ := (HO12d.out.fr HFz.out (fun _ _ h => h)).vw.cell hn12
                      obtain ⟨r13, o13, rfl, _, hc13⟩ := (HO13d.out.fr HFz.out (fun _ _ h => h)).vw.cell hn13
                      have e12 := hc12 x (.int .i64 (m2.place x)) (by unfold ints places; simp [hlx])
                      have e13 := hc13 x (.int .i64 (m2.reg x 1)) (by unfold ints regs1; simp [hlx])
                      clear hn12 hn13 hc12 hc13
                      by_cases hsk : true = false ∧ (x : Int) = who
                      · obtain ⟨hs1, hs2⟩ := hsk
                        first
                        | exact absurd hs1 (by decide)
                        | (clear hs1
                           subst hs2
                           go_wp2_with (first | fail | still_step | (with_reducible refine wpStill_nil ?_) | (with_reducible refine Flow.Both.mk ?_ ?_) | (with_reducible exact True.intro) | (with_reducible refine Flow.same_mk rfl rfl rfl ?_; go_simp; done) | (with_reducible exact Flow.same_un rfl rfl rfl) | (with_reducible refine Flow.region_flow (id := 28) [0, 1, 3, 3, 15, 31, 63, 127, 127, 511, 127, 127, 3199, 7295, 16383, 32767, 65535, 65535, 262143, 65535, 65535, 1638399, 3735551, 8388607, 16777215, 33554431] 262656 14708752 [(0, none), (1, none), (2, none), (3, none), (4, none), (5, none), (6, none), (7, none), (8, none), (10, none), (11, none), (12, none), (13, none), (9, some [12, 13]), (14, none), (15, none), (16, none), (17, none), (19, none), (20, none), (21, none), (22, none), (18, some [21, 22]), (23, none), (24, none), (25, none)] mixed ?hB ?_; (case hB => decide +kernel); simp only [Flow.textOf, List.map_cons, List.map_nil, Option.map_none, Option.map_some, Array.getD_eq_getD_getElem?, List.getElem?_toArray, List.getElem?_cons_zero, List.getElem?_cons_succ, Option.getD_some, Flow.wpFl, Flow.SameAll]) | (refine Flow.region_still mixed ?hB ?_; (case hB => decide +kernel)))
                           go_roundw
                           case rel =>
                             have hrl : ∃ x_1 : Nat, x_1 ≤ j ∧ (Value.int .i64 ((x : Int) + 1)) = .int .i64 x_1 ∧ Fr (fun _ => False) w8 wr.drew := ⟨x + 1, by omega, by go_num, HFz.out.drew⟩
                             first | exact hrl | ((repeat apply Exists.intro); exact ⟨hrl, rfl⟩)
                           case measure => simp [intOf]; omega)
                      · obtain ⟨hpe, hre⟩ := HEQ.out x (by first | (exact Or.inl rfl) | (exact Or.inr (fun h => hsk ⟨rfl, h⟩)) | (simp; done) | (simp; exact fun h => hsk ⟨by simp, h⟩))
                        have hxn : true = true ∨ ¬ ((x : Int) = who) := (by first | (exact Or.inl rfl) | (exact Or.inr (fun h => hsk ⟨by simp, h⟩)))
                        first | (have hxb : ((x : Int) != who) = true := (by simpa using hxn)) | skip
                        go_wp2_with (first | fail | still_step | (with_reducible refine wpStill_nil ?_) | (with_reducible refine Flow.Both.mk ?_ ?_) | (with_reducible exact True.intro) | (with_reducible refine Flow.same_mk rfl rfl rfl ?_; go_simp; done) | (with_reducible exact Flow.same_un rfl rfl rfl) | (with_reducible refine Flow.region_flow (id := 28) [0, 1, 3, 3, 15, 31, 63, 127, 127, 511, 127, 127, 3199, 7295, 16383, 32767, 65535, 65535, 262143, 65535, 65535, 1638399, 3735551, 8388607, 16777215, 33554431] 262656 14708752 [(0, none), (1, none), (2, none), (3, none), (4, none), (5, none), (6, none), (7, none), (8, none), (10, none), (11, none), (12, none), (13, none), (9, some [12, 13]), (14, none), (15, none), (16, none), (17, none), (19, none), (20, none), (21, none), (22, none), (18, some [21, 22]), (23, none), (24, none), (25, none)] mixed ?hB ?_; (case hB => decide +kernel); simp only [Flow.textOf, List.map_cons, List.map_nil, Option.map_none, Option.map_some, Array.getD_eq_getD_getElem?, List.getElem?_toArray, List.getElem?_cons_zero, List.getElem?_cons_succ, Option.getD_some, Flow.wpFl, Flow.SameAll]) | (refine Flow.region_still mixed ?hB ?_; (case hB => decide +kernel)))
                        go_at_call 12
                        refine (place_at (HA8.out.fr (HFz.out.drew) (fun _ _ h => h)) (x : Int)).mono ?_
                        rintro e v1 ⟨rfl, hf⟩
                        try rw [hpe]
                        have e12a := hf.cell e12 (fun h => h)
                        have e13a := hf.cell e13 (fun h => h)
                        have HFy := hid (HFz.out.drew.trans hf (fun _ _ h => h))
                        clear hf
                        go_wp2_with (first | fail | still_step | (with_reducible refine wpStill_nil ?_) | (with_reducible refine Flow.Both.mk ?_ ?_) | (with_reducible exact True.intro) | (with_reducible refine Flow.same_mk rfl rfl rfl ?_; go_simp; done) | (with_reducible exact Flow.same_un rfl rfl rfl) | (with_reducible refine Flow.region_flow (id := 28) [0, 1, 3, 3, 15, 31, 63, 127, 127, 511, 127, 127, 3199, 7295, 16383, 32767, 65535, 65535, 262143, 65535, 65535, 1638399, 3735551, 8388607, 16777215, 33554431] 262656 14708752 [(0, none), (1, none), (2, none), (3, none), (4, none), (5, none), (6, none), (7, none), (8, none), (10, none), (11, none), (12, none), (13, none), (9, some [12, 13]), (14, none), (15, none), (16, none), (17, none), (19, none), (20, none), (21, none), (22, none), (18, some [21, 22]), (23, none), (24, none), (25, none)] mixed ?hB ?_; (case hB => decide +kernel); simp only [Flow.textOf, List.map_cons, List.map_nil, Option.map_none, Option.map_some, Array.getD_eq_getD_getElem?, List.getElem?_toArray, List.getElem?_cons_zero, List.getElem?_cons_succ, Option.getD_some, Flow.wpFl, Flow.SameAll]) | (refine Flow.region_still mixed ?hB ?_; (case hB => decide +kernel)))
                        go_at_call 13
                        refine (reg_at (HA8.out.fr (HFy.out) (fun _ _ h => h)) (x : Int) 1).mono ?_
                        rintro e v2 ⟨rfl, hf⟩
                        try rw [hre]
                        have e13b := hf.cell e13a (fun h => h)
                        have e12b := hf.cell e12a (fun h => h)
                        have HFx := hid (HFy.out.trans hf (fun _ _ h => h))
                        clear hf
                        go_wp2_with (first | fail | still_step | (with_reducible refine wpStill_nil ?_) | (with_reducible refine Flow.Both.mk ?_ ?_) | (with_reducible exact True.intro) | (with_reducible refine Flow.same_mk rfl rfl rfl ?_; go_simp; done) | (with_reducible exact Flow.same_un rfl rfl rfl) | (with_reducible refine Flow.region_flow (id := 28) [0, 1, 3, 3, 15, 31, 63, 127, 127, 511, 127, 127, 3199, 7295, 16383, 32767, 65535, 65535, 262143, 65535, 65535, 1638399, 3735551, 8388607, 16777215, 33554431] 262656 14708752 [(0, none), (1, none), (2, none), (3, none), (4, none), (5, none), (6, none), (7, none), (8, none), (10, none), (11, none), (12, none), (13, none), (9, some [12, 13]), (14, none), (15, none), (16, none), (17, none), (19, none), (20, none), (21, none), (22, none), (18, some [21, 22]), (23, none), (24, none), (25, none)] mixed ?hB ?_; (case hB => decide +kernel); simp only [Flow.textOf, List.map_cons, List.map_nil, Option.map_none, Option.map_some, Array.getD_eq_getD_getElem?, List.getElem?_toArray, List.getElem?_cons_zero, List.getElem?_cons_succ, Option.getD_some, Flow.wpFl, Flow.SameAll]) | (refine Flow.region_still mixed ?hB ?_; (case hB => decide +kernel)))
                        go_roundw
                        case rel =>
                          have hrl : ∃ x_1 : Nat, x_1 ≤ j ∧ (Value.int .i64 ((x : Int) + 1)) = .int .i64 x_1 ∧ Fr (fun _ => False) w8 v2 := ⟨x + 1, by omega, by go_num, HFx.out⟩
                          first | exact hrl | ((repeat apply Exists.intro); exact ⟨hrl, rfl⟩)
                        case measure => simp [intOf]; omega
                    · obtain rfl : x = j := by omega
                      have HAe := hid (HA8.out.fr HFz.out (fun _ _ h => h))
                      have HFe := hid (HFd.out.trans HFz.out (fun _ _ h => h))
                      go_wp2_with (first | fail | still_step | (with_reducible refine wpStill_nil ?_) | (with_reducible refine Flow.Both.mk ?_ ?_) | (with_reducible exact True.intro) | (with_reducible refine Flow.same_mk rfl rfl rfl ?_; go_simp; done) | (with_reducible exact Flow.same_un rfl rfl rfl) | (with_reducible refine Flow.region_flow (id := 28) [0, 1, 3, 3, 15, 31, 63, 127, 127, 511, 127, 127, 3199, 7295, 16383, 32767, 65535, 65535, 262143, 65535, 65535, 1638399, 3735551, 8388607, 16777215, 33554431] 262656 14708752 [(0, none), (1, none), (2, none), (3, none), (4, none), (5, none), (6, none), (7, none), (8, none), (10, none), (11, none), (12, none), (13, none), (9, some [12, 13]), (14, none), (15, none), (16, none), (17, none), (19, none), (20, none), (21, none), (22, none), (18, some [21, 22]), (23, none), (24, none), (25, none)] mixed ?hB ?_; (case hB => decide +kernel); simp only [Flow.textOf, List.map_cons, List.map_nil, Option.map_none, Option.map_some, Array.getD_eq_getD_getElem?, List.getElem?_toArray, List.getElem?_cons_zero, List.getElem?_cons_succ, Option.getD_some, Flow.wpFl, Flow.SameAll]) | (refine Flow.region_still mixed ?hB ?_; (case hB => decide +kernel)))
                      go_roundw
                      case rel =>
                        have hrl : ∃ (k_1 : Nat) (m : M), k_1 ≤ T ∧ (Value.int .i64 ((k : Int) + 1)) = .int .i64 k_1 ∧ At wr R A m ∧ m.mem.length = L ∧ Fr (fun _ => False) w wr := ⟨k + 1, m2, by omega, by go_num, HAe.out, HLN.out, HFe.out⟩
                        first | exact hrl | ((repeat apply Exists.intro); exact ⟨hrl, rfl⟩)
                      case measure => simp [intOf]; omega
              · have h0 : ¬ fu ≤ 0 := by omega
                have h2 : x2 ≠ 2 := by omega
                have h2b : (x2 == 2) = false := by simpa using h2
                clear hst HS HG0
                have HEQ : Hid (∀ x : Nat, (false = true ∨ (x : Int) ≠ who) → m2.place x = mk.place x ∧ m2.reg x 1 = mk.reg x 1) := hid (fun x h => by
                  rcases h with h | h
                  · cases h
                  · exact ⟨HPO.out x h, HRO.out x h⟩)
                go_wp2_with (first | fail | still_step | (with_reducible refine wpStill_nil ?_) | (with_reducible refine Flow.Both.mk ?_ ?_) | (with_reducible exact True.intro) | (with_reducible refine Flow.same_mk rfl rfl rfl ?_; go_simp; done) | (with_reducible exact Flow.same_un rfl rfl rfl) | (with_reducible refine Flow.region_flow (id := 28) [0, 1, 3, 3, 15, 31, 63, 127, 127, 511, 127, 127, 3199, 7295, 16383, 32767, 65535, 65535, 262143, 65535, 65535, 1638399, 3735551, 8388607, 16777215, 33554431] 262656 14708752 [(0, none), (1, none), (2, none), (3, none), (4, none), (5, none), (6, none), (7, none), (8, none), (10, none), (11, none), (12, none), (13, none), (9, some [12, 13]), (14, none), (15, none), (16, none), (17, none), (19, none), (20, none), (21, none), (22, none), (18, some [21, 22]), (23, none), (24, none), (25, none)] mixed ?hB ?_; (case hB => decide +kernel); simp only [Flow.textOf, List.map_cons, List.map_nil, Option.map_none, Option.map_some, Array.getD_eq_getD_getElem?, List.getElem?_toArray, List.getElem?_cons_zero, List.getElem?_cons_succ, Option.getD_some, Flow.wpFl, Flow.SameAll]) | (refine Flow.region_still mixed ?hB ?_; (case hB => decide +kernel)))
                go_loopw [20] (fun i wz => ∃ x : Nat, x ≤ j ∧ i = .int .i64 x ∧ Fr (fun _ => False) w7 wz) (fun i _ => j - (intOf i).toNat)
                case atStart => exact ⟨0, Nat.zero_le _, rfl, Fr.refl _ _⟩
                case round =>
                  obtain ⟨x, hx, rfl, hf⟩ := hrel
                  have HFz := hid hf
                  clear hf
                  by_cases hlx : x < j
                  · have hn12 : ints (places mk j) ≠ [] := fun h => by have := congrArg List.length h; rw [ints_length, places_length, List.length_nil] at this; omega
                    have hn13 : ints (regs1 mk j) ≠ [] := fun h => by have := congrArg List.length h; rw [ints_length, regs1_length, List.length_nil] at this; omega
                    obtain ⟨r12, o12, rfl, _, hc12⟩ := (HO12c.out.fr HFz.out (fun _ _ h => h)).vw.cell hn12
                    obtain ⟨r13, o13, rfl, _, hc13⟩ := (HO13c.out.fr HFz.out (fun _ _ h => h)).vw.cell hn13
                    have e12 := hc12 x (.int .i64 (mk.place x)) (by unfold ints places; simp [hlx])
                    have e13 := hc13 x (.int .i64 (mk.reg x 1)) (by unfold ints regs1; simp [hlx])
                    clear hn12 hn13 hc12 hc13
                    by_cases hsk : false = false ∧ (x : Int) = who
                    · obtain ⟨hs1, hs2⟩ := hsk
                      first
                      | exact absurd hs1 (by decide)
                      | (clear hs1
                         subst hs2
                         go_wp2_with (first | fail | still_step | (with_reducible refine wpStill_nil ?_) | (with_reducible refine Flow.Both.mk ?_ ?_) | (with_reducible exact True.intro) | (with_reducible refine Flow.same_mk rfl rfl rfl ?_; go_simp; done) | (with_reducible exact Flow.same_un rfl rfl rfl) | (with_reducible refine Flow.region_flow (id := 28) [0, 1, 3, 3, 15, 31, 63, 127, 127, 511, 127, 127, 3199, 7295, 16383, 32767, 65535, 65535, 262143, 65535, 65535, 1638399, 3735551, 8388607, 16777215, 33554431] 262656 14708752 [(0, none), (1, none), (2, none), (3, none), (4, none), (5, none), (6, none), (7, none), (8, none), (10, none), (11, none), (12, none), (13, none), (9, some [12, 13]), (14, none), (15, none), (16, none), (17, none), (19, none), (20, none), (21, none), (22, none), (18, some [21, 22]), (23, none), (24, none), (25, none)] mixed ?hB ?_; (case hB => decide +kernel); simp only [Flow.textOf, List.map_cons, List.map_nil, Option.map_none, Option.map_some, Array.getD_eq_getD_getElem?, List.getElem?_toArray, List.getElem?_cons_zero, List.getElem?_cons_succ, Option.getD_some, Flow.wpFl, Flow.SameAll]) | (refine Flow.region_still mixed ?hB ?_; (case hB => decide +kernel)))
                         go_roundw
                         case rel =>
                           have hrl : ∃ x_1 : Nat, x_1 ≤ j ∧ (Value.int .i64 ((x : Int) + 1)) = .int .i64 x_1 ∧ Fr (fun _ => False) w7 wr.drew := ⟨x + 1, by omega, by go_num, HFz.out.drew⟩
                           first | exact hrl | ((repeat apply Exists.intro); exact ⟨hrl, rfl⟩)
                         case measure => simp [intOf]; omega)
                    · obtain ⟨hpe, hre⟩ := HEQ.out x (by first | (exact Or.inl rfl) | (exact Or.inr (fun h => hsk ⟨rfl, h⟩)) | (simp; done) | (simp; exact fun h => hsk ⟨by simp, h⟩))
                      have hxn : false = true ∨ ¬ ((x : Int) = who) := (by first | (exact Or.inl rfl) | (exact Or.inr (fun h => hsk ⟨by simp, h⟩)))
                      first | (have hxb : ((x : Int) != who) = true := (by simpa using hxn)) | skip
                      go_wp2_with (first | fail | still_step | (with_reducible refine wpStill_nil ?_) | (with_reducible refine Flow.Both.mk ?_ ?_) | (with_reducible exact True.intro) | (with_reducible refine Flow.same_mk rfl rfl rfl ?_; go_simp; done) | (with_reducible exact Flow.same_un rfl rfl rfl) | (with_reducible refine Flow.region_flow (id := 28) [0, 1, 3, 3, 15, 31, 63, 127, 127, 511, 127, 127, 3199, 7295, 16383, 32767, 65535, 65535, 262143, 65535, 65535, 1638399, 3735551, 8388607, 16777215, 33554431] 262656 14708752 [(0, none), (1, none), (2, none), (3, none), (4, none), (5, none), (6, none), (7, none), (8, none), (10, none), (11, none), (12, none), (13, none), (9, some [12, 13]), (14, none), (15, none), (16, none), (17, none), (19, none), (20, none), (21, none), (22, none), (18, some [21, 22]), (23, none), (24, none), (25, none)] mixed ?hB ?_; (case hB => decide +kernel); simp only [Flow.textOf, List.map_cons, List.map_nil, Option.map_none, Option.map_some, Array.getD_eq_getD_getElem?, List.getElem?_toArray, List.getElem?_cons_zero, List.getElem?_cons_succ, Option.getD_some, Flow.wpFl, Flow.SameAll]) | (refine Flow.region_still mixed ?hB ?_; (case hB => decide +kernel)))
                      go_at_call 12
                      refine (place_at (HA7.out.fr (HFz.out.drew) (fun _ _ h => h)) (x : Int)).mono ?_
                      rintro e v1 ⟨rfl, hf⟩
                      try rw [hpe]
                      have e12a := hf.cell e12 (fun h => h)
                      have e13a := hf.cell e13 (fun h => h)
                      have HFy := hid (HFz.out.drew.trans hf (fun _ _ h => h))
                      clear hf
                      go_wp2_with (first | fail | still_step | (with_reducible refine wpStill_nil ?_) | (with_reducible refine Flow.Both.mk ?_ ?_) | (with_reducible exact True.intro) | (with_reducible refine Flow.same_mk rfl rfl rfl ?_; go_simp; done) | (with_reducible exact Flow.same_un rfl rfl rfl) | (with_reducible refine Flow.region_flow (id := 28) [0, 1, 3, 3, 15, 31, 63, 127, 127, 511, 127, 127, 3199, 7295, 16383, 32767, 65535, 65535, 262143, 65535, 65535, 1638399, 3735551, 8388607, 16777215, 33554431] 262656 14708752 [(0, none), (1, none), (2, none), (3, none), (4, none), (5, none), (6, none), (7, none), (8, none), (10, none), (11, none), (12, none), (13, none), (9, some [12, 13]), (14, none), (15, none), (16, none), (17, none), (19, none), (20, none), (21, none), (22, none), (18, some [21, 22]), (23, none), (24, none), (25, none)] mixed ?hB ?_; (case hB => decide +kernel); simp only [Flow.textOf, List.map_cons, List.map_nil, Option.map_none, Option.map_some, Array.getD_eq_getD_getElem?, List.getElem?_toArray, List.getElem?_cons_zero, List.getElem?_cons_succ, Option.getD_some, Flow.wpFl, Flow.SameAll]) | (refine Flow.region_still mixed ?hB ?_; (case hB => decide +kernel)))
                      go_at_call 13
                      refine (reg_at (HA7.out.fr (HFy.out) (fun _ _ h => h)) (x : Int) 1).mono ?_
                      rintro e v2 ⟨rfl, hf⟩
                      try rw [hre]
                      have e13b := hf.cell e13a (fun h => h)
                      have e12b := hf.cell e12a (fun h => h)
                      have HFx := hid (HFy.out.trans hf (fun _ _ h => h))
                      clear hf
                      go_wp2_with (first | fail | still_step | (with_reducible refine wpStill_nil ?_) | (with_reducible refine Flow.Both.mk ?_ ?_) | (with_reducible exact True.intro) | (with_reducible refine Flow.same_mk rfl rfl rfl ?_; go_simp; done) | (with_reducible exact Flow.same_un rfl rfl rfl) | (with_reducible refine Flow.region_flow (id := 28) [0, 1, 3, 3, 15, 31, 63, 127, 127, 511, 127, 127, 3199, 7295, 16383, 32767, 65535, 65535, 262143, 65535, 65535, 1638399, 3735551, 8388607, 16777215, 33554431] 262656 14708752 [(0, none), (1, none), (2, none), (3, none), (4, none), (5, none), (6, none), (7, none), (8, none), (10, none), (11, none), (12, none), (13, none), (9, some [12, 13]), (14, none), (15, none), (16, none), (17, none), (19, none), (20, none), (21, none), (22, none), (18, some [21, 22]), (23, none), (24, none), (25, none)] mixed ?hB ?_; (case hB => decide +kernel); simp only [Flow.textOf, List.map_cons, List.map_nil, Option.map_none, Option.map_some, Array.getD_eq_getD_getElem?, List.getElem?_toArray, List.getElem?_cons_zero, List.getElem?_cons_succ, Option.getD_some, Flow.wpFl, Flow.SameAll]) | (refine Flow.region_still mixed ?hB ?_; (case hB => decide +kernel)))
                      go_roundw
                      case rel =>
                        have hrl : ∃ x_1 : Nat, x_1 ≤ j ∧ (Value.int .i64 ((x : Int) + 1)) = .int .i64 x_1 ∧ Fr (fun _ => False) w7 v2 := ⟨x + 1, by omega, by go_num, HFx.out⟩
                        first | exact hrl | ((repeat apply Exists.intro); exact ⟨hrl, rfl⟩)
                      case measure => simp [intOf]; omega
                  · obtain rfl : x = j := by omega
                    have HAe := hid (HA7.out.fr HFz.out (fun _ _ h => h))
                    have HFe := hid (HFc.out.trans HFz.out (fun _ _ h => h))
                    go_wp2_with (first | fail | still_step | (with_reducible refine wpStill_nil ?_) | (with_reducible refine Flow.Both.mk ?_ ?_) | (with_reducible exact True.intro) | (with_reducible refine Flow.same_mk rfl rfl rfl ?_; go_simp; done) | (with_reducible exact Flow.same_un rfl rfl rfl) | (with_reducible refine Flow.region_flow (id := 28) [0, 1, 3, 3, 15, 31, 63, 127, 127, 511, 127, 127, 3199, 7295, 16383, 32767, 65535, 65535, 262143, 65535, 65535, 1638399, 3735551, 8388607, 16777215, 33554431] 262656 14708752 [(0, none), (1, none), (2, none), (3, none), (4, none), (5, none), (6, none), (7, none), (8, none), (10, none), (11, none), (12, none), (13, none), (9, some [12, 13]), (14, none), (15, none), (16, none), (17, none), (19, none), (20, none), (21, none), (22, none), (18, some [21, 22]), (23, none), (24, none), (25, none)] mixed ?hB ?_; (case hB => decide +kernel); simp only [Flow.textOf, List.map_cons, List.map_nil, Option.map_none, Option.map_some, Array.getD_eq_getD_getElem?, List.getElem?_toArray, List.getElem?_cons_zero, List.getElem?_cons_succ, Option.getD_some, Flow.wpFl, Flow.SameAll]) | (refine Flow.region_still mixed ?hB ?_; (case hB => decide +kernel)))
                    go_roundw
                    case rel =>
                      have hrl : ∃ (k_1 : Nat) (m : M), k_1 ≤ T ∧ (Value.int .i64 ((k : Int) + 1)) = .int .i64 k_1 ∧ At wr R A m ∧ m.mem.length = L ∧ Fr (fun _ => False) w wr := ⟨k + 1, m2, by omega, by go_num, HAe.out, HLN.out, HFe.out⟩
                      first | exact hrl | ((repeat apply Exists.intro); exact ⟨hrl, rfl⟩)
                    case measure => simp [intOf]; omega
        · obtain rfl : k = T := by omega
          go_wp2_with (first | fail | still_step | (with_reducible refine wpStill_nil ?_) | (with_reducible refine Flow.Both.mk ?_ ?_) | (with_reducible exact True.intro) | (with_reducible refine Flow.same_mk rfl rfl rfl ?_; go_simp; done) | (with_reducible exact Flow.same_un rfl rfl rfl) | (with_reducible refine Flow.region_flow (id := 28) [0, 1, 3, 3, 15, 31, 63, 127, 127, 511, 127, 127, 3199, 7295, 16383, 32767, 65535, 65535, 262143, 65535, 65535, 1638399, 3735551, 8388607, 16777215, 33554431] 262656 14708752 [(0, none), (1, none), (2, none), (3, none), (4, none), (5, none), (6, none), (7, none), (8, none), (10, none), (11, none), (12, none), (13, none), (9, some [12, 13]), (14, none), (15, none), (16, none), (17, none), (19, none), (20, none), (21, none), (22, none), (18, some [21, 22]), (23, none), (24, none), (25, none)] mixed ?hB ?_; (case hB => decide +kernel); simp only [Flow.textOf, List.map_cons, List.map_nil, Option.map_none, Option.map_some, Array.getD_eq_getD_getElem?, List.getElem?_toArray, List.getElem?_cons_zero, List.getElem?_cons_succ, Option.getD_some, Flow.wpFl, Flow.SameAll]) | (refine Flow.region_still mixed ?hB ?_; (case hB => decide +kernel)))
          go_ret
          exact ⟨rfl, HF.out.below (Nat.le_refl _) (fun _ _ h => h)⟩
    · have h : 40 < T := by omega
      clear hgo
      go_wp2_with (first | fail | still_step | (with_reducible refine wpStill_nil ?_) | (with_reducible refine Flow.Both.mk ?_ ?_) | (with_reducible exact True.intro) | (with_reducible refine Flow.same_mk rfl rfl rfl ?_; go_simp; done) | (with_reducible exact Flow.same_un rfl rfl rfl) | (with_reducible refine Flow.region_flow (id := 28) [0, 1, 3, 3, 15, 31, 63, 127, 127, 511, 127, 127, 3199, 7295, 16383, 32767, 65535, 65535, 262143, 65535, 65535, 1638399, 3735551, 8388607, 16777215, 33554431] 262656 14708752 [(0, none), (1, none), (2, none), (3, none), (4, none), (5, none), (6, none), (7, none), (8, none), (10, none), (11, none), (12, none), (13, none), (9, some [12, 13]), (14, none), (15, none), (16, none), (17, none), (19, none), (20, none), (21, none), (22, none), (18, some [21, 22]), (23, none), (24, none), (25, none)] mixed ?hB ?_; (case hB => decide +kernel); simp only [Flow.textOf, List.map_cons, List.map_nil, Option.map_none, Option.map_some, Array.getD_eq_getD_getElem?, List.getElem?_toArray, List.getElem?_cons_zero, List.getElem?_cons_succ, Option.getD_some, Flow.wpFl, Flow.SameAll]) | (refine Flow.region_still mixed ?hB ?_; (case hB => decide +kernel)))
      go_ret
      exact ⟨rfl, HF2.out.below (Nat.le_refl _) (fun _ _ h => h)⟩
  · have hs : smallB qs L = false := by simpa using hs
    rw [hs]
    go_wp2_with (first | fail | still_step | (with_reducible refine wpStill_nil ?_) | (with_reducible refine Flow.Both.mk ?_ ?_) | (with_reducible exact True.intro) | (with_reducible refine Flow.same_mk rfl rfl rfl ?_; go_simp; done) | (with_reducible exact Flow.same_un rfl rfl rfl) | (with_reducible refine Flow.region_flow (id := 28) [0, 1, 3, 3, 15, 31, 63, 127, 127, 511, 127, 127, 3199, 7295, 16383, 32767, 65535, 65535, 262143, 65535, 65535, 1638399, 3735551, 8388607, 16777215, 33554431] 262656 14708752 [(0, none), (1, none), (2, none), (3, none), (4, none), (5, none), (6, none), (7, none), (8, none), (10, none), (11, none), (12, none), (13, none), (9, some [12, 13]), (14, none), (15, none), (16, none), (17, none), (19, none), (20, none), (21, none), (22, none), (18, some [21, 22]), (23, none), (24, none), (25, none)] mixed ?hB ?_; (case hB => decide +kernel); simp only [Flow.textOf, List.map_cons, List.map_nil, Option.map_none, Option.map_some, Array.getD_eq_getD_getElem?, List.getElem?_toArray, List.getElem?_cons_zero, List.getElem?_cons_succ, Option.getD_some, Flow.wpFl, Flow.SameAll]) | (refine Flow.region_still mixed ?hB ?_; (case hB => decide +kernel)))
    go_ret
    exact ⟨rfl, HF2.out.below (Nat.le_refl _) (fun _ _ h => h)⟩
end Go.Proofs.Ytokmdjpaegaojaa.Seq
