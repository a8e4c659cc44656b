/-
  SeqRests: the law's walk.
-/
import Derived.Test.YtokmdjpaegaojaaSeq10
import Derived.Test.YtokmdjpaegaojaaSeqL
namespace Go.Proofs.Ytokmdjpaegaojaa.Seq
open Go.RowKit
attribute [local irreducible] wpStill wpList Calls CallsIn

theorem smallB_true {qs : List ((Option Addr × Nat) × List Ins)} {n : Nat} (h : smallB qs n = true) : qs.length ≤ 6 ∧ n ≤ 100 ∧ ∀ q ∈ qs, q.2.length ≤ 100 := by
  unfold smallB at h
  simp only [Bool.and_eq_true, List.all_eq_true, decide_eq_true_eq] at h
  exact ⟨h.2.1, h.2.2, h.1⟩

/-- Two runs apart, at one machine. -/
structure Pair (b0 : Nat) (w0 w : World) (RA RB : Nat → Prop) (A B : Nat) (m n : M) : Prop where
  a : At w RA A m
  b : At w RB B n
  fr : Fr (fun _ => False) w0 w
  newA : ∀ k, RA k → b0 ≤ k
  newB : ∀ k, RB k → b0 ≤ k
  apart : ∀ k, RA k → ¬ RB k
  base : w0.heap.size ≤ b0

theorem Pair.frm {b0 : Nat} {w0 w w1 : World} {RA RB : Nat → Prop} {A B : Nat} {m n : M} (h : Pair b0 w0 w RA RB A B m n) (hf : Fr (fun _ => False) w w1) : Pair b0 w0 w1 RA RB A B m n :=
  ⟨h.a.fr hf (fun _ _ h => h), h.b.fr hf (fun _ _ h => h), h.fr.trans hf (fun _ _ h => h), h.newA, h.newB, h.apart, h.base⟩

theorem Pair.frS {b0 : Nat} {w0 w w1 : World} {S RA RB : Nat → Prop} {A B : Nat} {m n : M} (h : Pair b0 w0 w RA RB A B m n) (hf : Fr S w w1) (hA : ∀ k, RA k → ¬ S k) (hB : ∀ k, RB k → ¬ S k) (h0 : ∀ k, S k → w0.heap.size ≤ k) : Pair b0 w0 w1 RA RB A B m n :=
  ⟨h.a.fr hf hA, h.b.fr hf hB, h.fr.trans hf (fun k hk hh => by have := h0 k hh; omega), h.newA, h.newB, h.apart, h.base⟩

theorem Blk.put3 {w : World} {b : Nat} {T : TypeId} {a0 a1 a2 : Value} (h : Blk w b #[a0, a1, a2] T) (v0 v1 v2 : Value) :
    Blk (((w.setCell ⟨b, 0, none⟩ v0).setCell ⟨b, 1, none⟩ v1).setCell ⟨b, 2, none⟩ v2) b #[v0, v1, v2] T ∧ Fr (fun k => k = b) w (((w.setCell ⟨b, 0, none⟩ v0).setCell ⟨b, 1, none⟩ v1).setCell ⟨b, 2, none⟩ v2) := by
  refine ⟨?_, ?_⟩
  · have := ((h.set 0 v0).set 1 v1).set 2 v2
    simpa using this
  · (repeat' (first | with_reducible exact Fr.refl _ _ | with_reducible apply Fr.alloc | with_reducible apply Fr.drew | with_reducible apply Fr.drewN | (with_reducible refine Fr.setCell ?_ ?_ _))) <;> exact fun _ => rfl

theorem Pair.turnA {b0 : Nat} {w0 w : World} {RA RB : Nat → Prop} {A B : Nat} {m n : M} (h : Pair b0 w0 w RA RB A B m n) (who fuel : Int) (hfu : fuel < 9223372036854775807) :
    Calls Try.prog 9 #[.pointer (some ⟨A, 0, none⟩), .int .i64 who, .int .i64 fuel] w fun e w' => e = .returned (.tuple #[evV (m.turn who fuel).2.1, .int .i64 (m.turn who fuel).2.2]) ∧ Pair b0 w0 w' RA RB A B (m.turn who fuel).1 n ∧ Fr RA w w' := by
  refine (turn_at h.a who fuel hfu).mono ?_
  rintro e w' ⟨h1, h2, h3⟩
  exact ⟨h1, ⟨h2, h.b.fr h3 (fun k hk hh => h.apart k hh hk), h.fr.trans h3 (fun k hk hh => by have := h.newA k hh; have := h.base; omega), h.newA, h.newB, h.apart, h.base⟩, h3⟩

theorem Pair.turnB {b0 : Nat} {w0 w : World} {RA RB : Nat → Prop} {A B : Nat} {m n : M} (h : Pair b0 w0 w RA RB A B m n) (who fuel : Int) (hfu : fuel < 9223372036854775807) :
    Calls Try.prog 9 #[.pointer (some ⟨B, 0, none⟩), .int .i64 who, .int .i64 fuel] w fun e w' => e = .returned (.tuple #[evV (n.turn who fuel).2.1, .int .i64 (n.turn who fuel).2.2]) ∧ Pair b0 w0 w' RA RB A B m (n.turn who fuel).1 ∧ Fr RB w w' := by
  refine (turn_at h.b who fuel hfu).mono ?_
  rintro e w' ⟨h1, h2, h3⟩
  exact ⟨h1, ⟨h.a.fr h3 (fun k hk hh => h.apart k hk hh), h2, h.fr.trans h3 (fun k hk hh => by have := h.newB k hh; have := h.base; omega), h.newA, h.newB, h.apart, h.base⟩, h3⟩

set_option maxHeartbeats 8000000 in
set_option maxRecDepth 100000 in
theorem rests_walk (ao am at' : Option Addr) (co cm ct : Nat) (qs : List ((Option Addr × Nat) × List Ins)) (mem turns : List Int) (thread fuel more : Int) (w : World) (hc : Codes w (fun k => k < w.heap.size) ao qs) (hm : Vw w 1 (fun k => k < w.heap.size) am mem.length (ints mem)) (hmn : am = none → mem.length = 0)
    (ht : Vw w 1 (fun k => k < w.heap.size) at' turns.length (ints turns)) (hq : qs.length ≤ 9223372036854775807) (hml : mem.length ≤ 9223372036854775807) (htl : turns.length ≤ 9223372036854775807) :
    Calls Try.prog 3 #[.slice ao qs.length co, .slice am mem.length cm, .agg #[.slice at' turns.length ct, .int .i64 thread, .int .i64 fuel, .int .i64 more]] w fun e w' => e = .returned (.bool true) ∧ Below w.heap.size w w' := by
  have HC := hid hc
  have HM := hid hm
  have HT := hid ht
  clear hc hm ht
  obtain ⟨L, hL⟩ : ∃ L, L = mem.length := ⟨_, rfl⟩
  obtain ⟨Q, hQ⟩ : ∃ Q, Q = qs.length := ⟨_, rfl⟩
  obtain ⟨T, hT⟩ : ∃ T, T = turns.length := ⟨_, rfl⟩
  rw [← hL] at hml hmn
  rw [← hQ] at hq
  rw [← hT] at htl
  rw [← hL, ← hQ, ← hT]
  have HL := hid hL
  have HQ := hid hQ
  have HTL := hid hT
  clear hL hQ hT
  have hbx := Blk.new w #[.slice at' T ct, .int .i64 thread, .int .i64 fuel, .int .i64 more] 26
  have HBX := hid hbx
  clear hbx
  go_enter Try.func3, Try.ntmps3
  go_wp2_with (first | fail | still_step | (with_reducible refine wpStill_nil ?_) | (with_reducible refine Flow.Both.mk ?_ ?_) | (with_reducible exact True.intro) | (with_reducible refine Flow.same_mk rfl rfl rfl ?_; go_simp; done) | (with_reducible exact Flow.same_un rfl rfl rfl) | (with_reducible refine Flow.region_flow (id := 18) [0, 0, 3, 7, 15, 15, 63, 127, 255, 511, 1023, 511, 4095, 8191, 16383, 32767, 65535, 65535, 196607, 524287, 65535, 65535, 2162687, 8388607, 16777215, 33554431, 67108863] 8926208 23461959 [(0, none), (1, none), (2, none), (3, none), (4, none), (5, none), (6, none), (7, none), (8, none), (9, none), (11, none), (10, some []), (12, some []), (13, some []), (14, none), (15, none), (16, none), (17, none), (18, none), (20, none), (21, none), (22, none), (19, some [21, 22]), (23, some []), (24, none), (25, none), (26, none)] mixed ?hB ?_; (case hB => decide +kernel); simp only [Flow.textOf, List.map_cons, List.map_nil, Option.map_none, Option.map_some, Array.getD_eq_getD_getElem?, List.getElem?_toArray, List.getElem?_cons_zero, List.getElem?_cons_succ, Option.getD_some, Flow.wpFl, Flow.SameAll]) | (refine Flow.region_still mixed ?hB ?_; (case hB => decide +kernel)))
  go_at_call 6
  refine (awake_true _).mono ?_
  rintro e w1 ⟨rfl, hf⟩
  have hf1 : Fr (fun _ => False) w w1 := (show Fr (fun _ => False) w _ by (repeat' (first | with_reducible exact Fr.refl _ _ | with_reducible apply Fr.alloc | with_reducible apply Fr.drew | with_reducible apply Fr.drewN | (with_reducible refine Fr.setCell ?_ ?_ _)))).trans hf (fun _ _ h => h)
  have HB1 := hid (HBX.out.fr hf (fun h => h))
  have HF1 := hid hf1
  clear hf hf1 HBX
  go_wp2_with (first | fail | still_step | (with_reducible refine wpStill_nil ?_) | (with_reducible refine Flow.Both.mk ?_ ?_) | (with_reducible exact True.intro) | (with_reducible refine Flow.same_mk rfl rfl rfl ?_; go_simp; done) | (with_reducible exact Flow.same_un rfl rfl rfl) | (with_reducible refine Flow.region_flow (id := 18) [0, 0, 3, 7, 15, 15, 63, 127, 255, 511, 1023, 511, 4095, 8191, 16383, 32767, 65535, 65535, 196607, 524287, 65535, 65535, 2162687, 8388607, 16777215, 33554431, 67108863] 8926208 23461959 [(0, none), (1, none), (2, none), (3, none), (4, none), (5, none), (6, none), (7, none), (8, none), (9, none), (11, none), (10, some []), (12, some []), (13, some []), (14, none), (15, none), (16, none), (17, none), (18, none), (20, none), (21, none), (22, none), (19, some [21, 22]), (23, some []), (24, none), (25, none), (26, none)] mixed ?hB ?_; (case hB => decide +kernel); simp only [Flow.textOf, List.map_cons, List.map_nil, Option.map_none, Option.map_some, Array.getD_eq_getD_getElem?, List.getElem?_toArray, List.getElem?_cons_zero, List.getElem?_cons_succ, Option.getD_some, Flow.wpFl, Flow.SameAll]) | (refine Flow.region_still mixed ?hB ?_; (case hB => decide +kernel)))
  go_at_call 7
  have hsm := small_is (fun k => k < w.heap.size) ao am co cm L qs w1 (HC.out.fr HF1.out (fun _ _ h => h)) (by rw [← HQ.out]; exact hq) hml
  rw [← HQ.out] at hsm
  refine hsm.mono ?_
  rintro e w2 ⟨rfl, hf⟩
  have HB2 := hid (HB1.out.fr hf (fun h => h))
  have HF2 := hid (HF1.out.trans hf (fun _ _ h => h))
  have HSM := hid (rfl : smallB qs L = smallB qs L)
  have b0 := HB2.out.cell 0
  have b1 := HB2.out.cell 1
  have b2 := HB2.out.cell 2
  have b3 := HB2.out.cell 3
  clear hf HB1 HF1 hsm
  by_cases hs : smallB qs L = true
  · rw [hs]
    by_cases hgo : T ≤ 40 ∧ 0 ≤ fuel ∧ fuel ≤ 100 ∧ 0 ≤ more ∧ more ≤ 100
    · obtain ⟨g1, g2, g3, g4, g5⟩ := hgo
      obtain ⟨s1, s2, s3⟩ := smallB_true hs
      rw [← HQ.out] at s1
      have HS3 := hid s3
      clear hs s3
      have hcA := HC.out.fr HF2.out (fun _ _ h => h)
      go_wp2_with (first | fail | still_step | (with_reducible refine wpStill_nil ?_) | (with_reducible refine Flow.Both.mk ?_ ?_) | (with_reducible exact True.intro) | (with_reducible refine Flow.same_mk rfl rfl rfl ?_; go_simp; done) | (with_reducible exact Flow.same_un rfl rfl rfl) | (with_reducible refine Flow.region_flow (id := 18) [0, 0, 3, 7, 15, 15, 63, 127, 255, 511, 1023, 511, 4095, 8191, 16383, 32767, 65535, 65535, 196607, 524287, 65535, 65535, 2162687, 8388607, 16777215, 33554431, 67108863] 8926208 23461959 [(0, none), (1, none), (2, none), (3, none), (4, none), (5, none), (6, none), (7, none), (8, none), (9, none), (11, none), (10, some []), (12, some []), (13, some []), (14, none), (15, none), (16, none), (17, none), (18, none), (20, none), (21, none), (22, none), (19, some [21, 22]), (23, some []), (24, none), (25, none), (26, none)] mixed ?hB ?_; (case hB => decide +kernel); simp only [Flow.textOf, List.map_cons, List.map_nil, Option.map_none, Option.map_some, Array.getD_eq_getD_getElem?, List.getElem?_toArray, List.getElem?_cons_zero, List.getElem?_cons_succ, Option.getD_some, Flow.wpFl, Flow.SameAll]) | (refine Flow.region_still mixed ?hB ?_; (case hB => decide +kernel)))
      go_at_call 8
      have hnA := new_at (fun k => k < w.heap.size) (fun k => k < w.heap.size) ao am co cm qs mem w2 (HC.out.fr HF2.out (fun _ _ h => h)) (HM.out.fr HF2.out (fun _ _ h => h)) (by rw [← HL.out]; exact hmn) (by rw [← HQ.out]; omega) (by rw [← HL.out]; omega) (fun q hq => by have := HS3.out q hq; omega)
      rw [← HQ.out, ← HL.out] at hnA
      refine hnA.mono ?_
      rintro e w3 ⟨A, rfl, hA, hfA⟩
      have HB3 := hid (HB2.out.fr hfA (fun h => h))
      have HF3 := hid (HF2.out.trans hfA (fun _ _ h => h))
      have HA := hid hA
      have z3 := hfA.size
      have z2 := HB2.out.lt
      clear hA hfA hnA HB2 HF2 hcA
      go_wp2_with (first | fail | still_step | (with_reducible refine wpStill_nil ?_) | (with_reducible refine Flow.Both.mk ?_ ?_) | (with_reducible exact True.intro) | (with_reducible refine Flow.same_mk rfl rfl rfl ?_; go_simp; done) | (with_reducible exact Flow.same_un rfl rfl rfl) | (with_reducible refine Flow.region_flow (id := 18) [0, 0, 3, 7, 15, 15, 63, 127, 255, 511, 1023, 511, 4095, 8191, 16383, 32767, 65535, 65535, 196607, 524287, 65535, 65535, 2162687, 8388607, 16777215, 33554431, 67108863] 8926208 23461959 [(0, none), (1, none), (2, none), (3, none), (4, none), (5, none), (6, none), (7, none), (8, none), (9, none), (11, none), (10, some []), (12, some []), (13, some []), (14, none), (15, none), (16, none), (17, none), (18, none), (20, none), (21, none), (22, none), (19, some [21, 22]), (23, some []), (24, none), (25, none), (26, none)] mixed ?hB ?_; (case hB => decide +kernel); simp only [Flow.textOf, List.map_cons, List.map_nil, Option.map_none, Option.map_some, Array.getD_eq_getD_getElem?, List.getElem?_toArray, List.getElem?_cons_zero, List.getElem?_cons_succ, Option.getD_some, Flow.wpFl, Flow.SameAll]) | (refine Flow.region_still mixed ?hB ?_; (case hB => decide +kernel)))
      go_at_call 8
      have hnB := new_at (fun k => k < w.heap.size) (fun k => k < w.heap.size) ao am co cm qs mem w3 (HC.out.fr HF3.out (fun _ _ h => h)) (HM.out.fr HF3.out (fun _ _ h => h)) (by rw [← HL.out]; exact hmn) (by rw [← HQ.out]; omega) (by rw [← HL.out]; omega) (fun q hq => by have := HS3.out q hq; omega)
      rw [← HQ.out, ← HL.out] at hnB
      refine hnB.mono ?_
      rintro e w4 ⟨B, rfl, hB, hfB⟩
      have HB4 := hid (HB3.out.fr hfB (fun h => h))
      have hF4 := HF3.out.trans hfB (fun _ _ h => h)
      have hA4 := HA.out.fr hfB (fun _ _ h => h)
      obtain ⟨RA, hRA⟩ : ∃ RA : Nat → Prop, RA = (fun k => w2.heap.size ≤ k ∧ k < w3.heap.size) := ⟨_, rfl⟩
      obtain ⟨RB, hRB⟩ : ∃ RB : Nat → Prop, RB = (fun k => w3.heap.size ≤ k ∧ k < w4.heap.size) := ⟨_, rfl⟩
      rw [← hRA] at hA4
      rw [← hRB] at hB
      obtain ⟨m, hm⟩ : ∃ m, m = start (qs.map (·.2)) mem := ⟨_, rfl⟩
      have hml : m.mem.length = L := by rw [hm]; exact HL.out.symm
      rw [← hm] at hA4 hB
      have HP : Hid (Pair (w.heap.size + 1) w w4 RA RB A B m m) := hid ⟨hA4, hB, hF4, fun k hk => by rw [hRA] at hk; omega, fun k hk => by rw [hRB] at hk; omega, fun k hk hh => by rw [hRA] at hk; rw [hRB] at hh; omega, by omega⟩
      clear hA4 hB hfB hnB HB3 HF3 HA hRA hRB hF4 hm z2 z3 HS3 b0 b1 b2 b3
      go_wp2_with (first | fail | still_step | (with_reducible refine wpStill_nil ?_) | (with_reducible refine Flow.Both.mk ?_ ?_) | (with_reducible exact True.intro) | (with_reducible refine Flow.same_mk rfl rfl rfl ?_; go_simp; done) | (with_reducible exact Flow.same_un rfl rfl rfl) | (with_reducible refine Flow.region_flow (id := 18) [0, 0, 3, 7, 15, 15, 63, 127, 255, 511, 1023, 511, 4095, 8191, 16383, 32767, 65535, 65535, 196607, 524287, 65535, 65535, 2162687, 8388607, 16777215, 33554431, 67108863] 8926208 23461959 [(0, none), (1, none), (2, none), (3, none), (4, none), (5, none), (6, none), (7, none), (8, none), (9, none), (11, none), (10, some []), (12, some []), (13, some []), (14, none), (15, none), (16, none), (17, none), (18, none), (20, none), (21, none), (22, none), (19, some [21, 22]), (23, some []), (24, none), (25, none), (26, none)] mixed ?hB ?_; (case hB => decide +kernel); simp only [Flow.textOf, List.map_cons, List.map_nil, Option.map_none, Option.map_some, Array.getD_eq_getD_getElem?, List.getElem?_toArray, List.getElem?_cons_zero, List.getElem?_cons_succ, Option.getD_some, Flow.wpFl, Flow.SameAll]) | (refine Flow.region_still mixed ?hB ?_; (case hB => decide +kernel)))
      go_loopw [11] (fun i wr => ∃ (k : Nat) (m : M), k ≤ T ∧ i = .int .i64 k ∧ Pair (w.heap.size + 1) w wr RA RB A B m m ∧ m.mem.length = L ∧ Blk wr w.heap.size #[.slice at' T ct, .int .i64 thread, .int .i64 fuel, .int .i64 more] 26) (fun i _ => T - (intOf i).toNat)
      case atStart => exact ⟨0, m, Nat.zero_le _, rfl, HP.out, hml, HB4.out⟩
      case round =>
        clear HP HB4 hml
        obtain ⟨k, mk, hk, rfl, hp, hmk, hb⟩ := hrel
        have HP := hid hp
        have HB := hid hb
        have HMK := hid hmk
        have b0 := HB.out.cell 0
        have b1 := HB.out.cell 1
        have b2 := HB.out.cell 2
        have b3 := HB.out.cell 3
        clear hp hb hmk
        by_cases hlt : k < T
        · have hkl : k < turns.length := by have := HTL.out; omega
          have hne : ints turns ≠ [] := fun h => by have := congrArg List.length h; rw [ints_length, List.length_nil] at this; omega
          obtain ⟨r, off, rfl, hrl, hcl⟩ := (HT.out.fr HP.out.fr (fun _ _ h => h)).cell hne
          have t0 := hcl k _ (ints_get' turns k hkl)
          clear hcl hne
          generalize turns[k] = who at *
          go_wp2_with (first | fail | still_step | (with_reducible refine wpStill_nil ?_) | (with_reducible refine Flow.Both.mk ?_ ?_) | (with_reducible exact True.intro) | (with_reducible refine Flow.same_mk rfl rfl rfl ?_; go_simp; done) | (with_reducible exact Flow.same_un rfl rfl rfl) | (with_reducible refine Flow.region_flow (id := 18) [0, 0, 3, 7, 15, 15, 63, 127, 255, 511, 1023, 511, 4095, 8191, 16383, 32767, 65535, 65535, 196607, 524287, 65535, 65535, 2162687, 8388607, 16777215, 33554431, 67108863] 8926208 23461959 [(0, none), (1, none), (2, none), (3, none), (4, none), (5, none), (6, none), (7, none), (8, none), (9, none), (11, none), (10, some []), (12, some []), (13, some []), (14, none), (15, none), (16, none), (17, none), (18, none), (20, none), (21, none), (22, none), (19, some [21, 22]), (23, some []), (24, none), (25, none), (26, none)] mixed ?hB ?_; (case hB => decide +kernel); simp only [Flow.textOf, List.map_cons, List.map_nil, Option.map_none, Option.map_some, Array.getD_eq_getD_getElem?, List.getElem?_toArray, List.getElem?_cons_zero, List.getElem?_cons_succ, Option.getD_some, Flow.wpFl, Flow.SameAll]) | (refine Flow.region_still mixed ?hB ?_; (case hB => decide +kernel)))
          go_at_call 9
          refine (HP.out.turnA who 20 (by decide)).mono ?_
          rintro e w5 ⟨rfl, hp, hf⟩
          have HP5 := hid hp
          have HB5 := hid (HB.out.fr hf (fun h => by have := HP.out.newA _ h; omega))
          have e0 := HB5.out.cell 0
          have t5 := hf.cell t0 (fun h => by have := HP.out.newA _ h; dsimp only at this; omega)
          clear hp hf
          go_wp2_with (first | fail | still_step | (with_reducible refine wpStill_nil ?_) | (with_reducible refine Flow.Both.mk ?_ ?_) | (with_reducible exact True.intro) | (with_reducible refine Flow.same_mk rfl rfl rfl ?_; go_simp; done) | (with_reducible exact Flow.same_un rfl rfl rfl) | (with_reducible refine Flow.region_flow (id := 18) [0, 0, 3, 7, 15, 15, 63, 127, 255, 511, 1023, 511, 4095, 8191, 16383, 32767, 65535, 65535, 196607, 524287, 65535, 65535, 2162687, 8388607, 16777215, 33554431, 67108863] 8926208 23461959 [(0, none), (1, none), (2, none), (3, none), (4, none), (5, none), (6, none), (7, none), (8, none), (9, none), (11, none), (10, some []), (12, some []), (13, some []), (14, none), (15, none), (16, none), (17, none), (18, none), (20, none), (21, none), (22, none), (19, some [21, 22]), (23, some []), (24, none), (25, none), (26, none)] mixed ?hB ?_; (case hB => decide +kernel); simp only [Flow.textOf, List.map_cons, List.map_nil, Option.map_none, Option.map_some, Array.getD_eq_getD_getElem?, List.getElem?_toArray, List.getElem?_cons_zero, List.getElem?_cons_succ, Option.getD_some, Flow.wpFl, Flow.SameAll]) | (refine Flow.region_still mixed ?hB ?_; (case hB => decide +kernel)))
          go_at_call 9
          refine (HP5.out.turnB who 20 (by decide)).mono ?_
          rintro e w6 ⟨rfl, hp, hf⟩
          have HP6 := hid hp
          have HB6 := hid (HB5.out.fr hf (fun h => by have := HP5.out.newB _ h; omega))
          clear hp hf
          go_wp2_with (first | fail | still_step | (with_reducible refine wpStill_nil ?_) | (with_reducible refine Flow.Both.mk ?_ ?_) | (with_reducible exact True.intro) | (with_reducible refine Flow.same_mk rfl rfl rfl ?_; go_simp; done) | (with_reducible exact Flow.same_un rfl rfl rfl) | (with_reducible refine Flow.region_flow (id := 18) [0, 0, 3, 7, 15, 15, 63, 127, 255, 511, 1023, 511, 4095, 8191, 16383, 32767, 65535, 65535, 196607, 524287, 65535, 65535, 2162687, 8388607, 16777215, 33554431, 67108863] 8926208 23461959 [(0, none), (1, none), (2, none), (3, none), (4, none), (5, none), (6, none), (7, none), (8, none), (9, none), (11, none), (10, some []), (12, some []), (13, some []), (14, none), (15, none), (16, none), (17, none), (18, none), (20, none), (21, none), (22, none), (19, some [21, 22]), (23, some []), (24, none), (25, none), (26, none)] mixed ?hB ?_; (case hB => decide +kernel); simp only [Flow.textOf, List.map_cons, List.map_nil, Option.map_none, Option.map_some, Array.getD_eq_getD_getElem?, List.getElem?_toArray, List.getElem?_cons_zero, List.getElem?_cons_succ, Option.getD_some, Flow.wpFl, Flow.SameAll]) | (refine Flow.region_still mixed ?hB ?_; (case hB => decide +kernel)))
          go_roundw
          case rel =>
            have hrl : ∃ (k_1 : Nat) (m : M), k_1 ≤ T ∧ (Value.int .i64 ((k : Int) + 1)) = .int .i64 k_1 ∧ Pair (w.heap.size + 1) w w6 RA RB A B m m ∧ m.mem.length = L ∧ Blk w6 w.heap.size #[.slice (some ⟨r, off, none⟩) T ct, .int .i64 thread, .int .i64 fuel, .int .i64 more] 26 :=
              ⟨k + 1, _, by omega, by go_num, HP6.out, by rw [(turn_len _ _ _).1]; exact HMK.out, HB6.out⟩
            first | exact hrl | ((repeat apply Exists.intro); exact ⟨hrl, rfl⟩)
          case measure => simp [intOf]; omega
        · obtain rfl : k = T := by omega
          go_wp2_with (first | fail | still_step | (with_reducible refine wpStill_nil ?_) | (with_reducible refine Flow.Both.mk ?_ ?_) | (with_reducible exact True.intro) | (with_reducible refine Flow.same_mk rfl rfl rfl ?_; go_simp; done) | (with_reducible exact Flow.same_un rfl rfl rfl) | (with_reducible refine Flow.region_flow (id := 18) [0, 0, 3, 7, 15, 15, 63, 127, 255, 511, 1023, 511, 4095, 8191, 16383, 32767, 65535, 65535, 196607, 524287, 65535, 65535, 2162687, 8388607, 16777215, 33554431, 67108863] 8926208 23461959 [(0, none), (1, none), (2, none), (3, none), (4, none), (5, none), (6, none), (7, none), (8, none), (9, none), (11, none), (10, some []), (12, some []), (13, some []), (14, none), (15, none), (16, none), (17, none), (18, none), (20, none), (21, none), (22, none), (19, some [21, 22]), (23, some []), (24, none), (25, none), (26, none)] mixed ?hB ?_; (case hB => decide +kernel); simp only [Flow.textOf, List.map_cons, List.map_nil, Option.map_none, Option.map_some, Array.getD_eq_getD_getElem?, List.getElem?_toArray, List.getElem?_cons_zero, List.getElem?_cons_succ, Option.getD_some, Flow.wpFl, Flow.SameAll]) | (refine Flow.region_still mixed ?hB ?_; (case hB => decide +kernel)))
          go_at_call 9
          refine (HP.out.turnA thread fuel (by omega)).mono ?_
          rintro e w5 ⟨rfl, hp, hf⟩
          dsimp only [evV]
          have HP5 := hid hp
          have HB5 := hid (HB.out.fr hf (fun h => by have := HP.out.newA _ h; omega))
          clear hp hf
          by_cases htired : (mk.turn thread fuel).2.2 = 3
          · have hmore := turn_more mk thread fuel more g2 g4 htired
            have HMORE := hid hmore
            rw [htired]
            clear htired hmore
            obtain ⟨e1, he1⟩ : ∃ e1, e1 = (mk.turn thread fuel).2.1 := ⟨_, rfl⟩
            rw [← he1]
            clear he1
            obtain ⟨m1, hm1⟩ : ∃ m1, m1 = (mk.turn thread fuel).1 := ⟨_, rfl⟩
            rw [← hm1] at HP5 HMORE
            clear hm1
            have HE5 := hid (Blk.new w5 #[.int .i64 e1.kind, .int .i64 e1.thread, .int .i64 e1.n] 32)
            have HP5' := hid (HP5.out.frm (show Fr (fun _ => False) w5 (w5.alloc (.cells #[.int .i64 e1.kind, .int .i64 e1.thread, .int .i64 e1.n] 32)) by (repeat' (first | with_reducible exact Fr.refl _ _ | with_reducible apply Fr.alloc | with_reducible apply Fr.drew | with_reducible apply Fr.drewN | (with_reducible refine Fr.setCell ?_ ?_ _)))))
            have HB5' := hid (HB5.out.alloc (.cells #[.int .i64 e1.kind, .int .i64 e1.thread, .int .i64 e1.n] 32))
            have z5 : ∀ k, RA k → k < w5.heap.size := HP5.out.a.lt
            have y5 : ∀ k, RB k → k < w5.heap.size := HP5.out.b.lt
            have c1 := HB5.out.cell 1
            have c2 := HB5.out.cell 2
            have c3 := HB5.out.cell 3
            have cl := HB5.out.lt
            clear HP HP5 HB HB5
            have hlw5 : w.heap.size < w5.heap.size := cl
            go_wp2_with (first | fail | still_step | (with_reducible refine wpStill_nil ?_) | (with_reducible refine Flow.Both.mk ?_ ?_) | (with_reducible exact True.intro) | (with_reducible refine Flow.same_mk rfl rfl rfl ?_; go_simp; done) | (with_reducible exact Flow.same_un rfl rfl rfl) | (with_reducible refine Flow.region_flow (id := 18) [0, 0, 3, 7, 15, 15, 63, 127, 255, 511, 1023, 511, 4095, 8191, 16383, 32767, 65535, 65535, 196607, 524287, 65535, 65535, 2162687, 8388607, 16777215, 33554431, 67108863] 8926208 23461959 [(0, none), (1, none), (2, none), (3, none), (4, none), (5, none), (6, none), (7, none), (8, none), (9, none), (11, none), (10, some []), (12, some []), (13, some []), (14, none), (15, none), (16, none), (17, none), (18, none), (20, none), (21, none), (22, none), (19, some [21, 22]), (23, some []), (24, none), (25, none), (26, none)] mixed ?hB ?_; (case hB => decide +kernel); simp only [Flow.textOf, List.map_cons, List.map_nil, Option.map_none, Option.map_some, Array.getD_eq_getD_getElem?, List.getElem?_toArray, List.getElem?_cons_zero, List.getElem?_cons_succ, Option.getD_some, Flow.wpFl, Flow.SameAll]) | (refine Flow.region_still mixed ?hB ?_; (case hB => decide +kernel)))
            go_at_call 9
            refine (HP5'.out.turnA thread more (by omega)).mono ?_
            rintro e w6 ⟨rfl, hp, hf⟩
            dsimp only [evV]
            have HP6 := hid hp
            have HB6 := hid (HB5'.out.fr hf (fun h => by have := HP5'.out.newA _ h; omega))
            have HE6 := hid (HE5.out.fr hf (fun h => by have := z5 _ h; omega))
            have hsz6 : w5.heap.size < w6.heap.size := HE6.out.lt
            clear hp hf HP5' HB5' HE5
            have hbc := HMORE.out
            obtain ⟨res, hres⟩ : ∃ res, res = m1.turn thread more := ⟨_, rfl⟩
            rw [← hres] at HP6 hbc
            rw [← hres]
            have hmem : res.1.mem.length = (mk.turn thread (fuel + more)).1.mem.length := by rw [hbc]
            rw [(turn_len _ _ _).1, HMK.out] at hmem
            have HBC := hid hbc
            clear hres hbc HMORE
            obtain ⟨m2, e2, x2⟩ := res
            dsimp only at *
            have d1 := HB6.out.cell 1
            have d2 := HB6.out.cell 2
            have d3 := HB6.out.cell 3
            have q6 := HE6.out.cell 0
            have q7 := HE6.out.free 0
            have q8 := HE6.out.cell 1
            have q9 := HE6.out.free 1
            have q10 := HE6.out.cell 2
            have q11 := HE6.out.free 2
            go_wp2_with (first | fail | still_step | (with_reducible refine wpStill_nil ?_) | (with_reducible refine Flow.Both.mk ?_ ?_) | (with_reducible exact True.intro) | (with_reducible refine Flow.same_mk rfl rfl rfl ?_; go_simp; done) | (with_reducible exact Flow.same_un rfl rfl rfl) | (with_reducible refine Flow.region_flow (id := 18) [0, 0, 3, 7, 15, 15, 63, 127, 255, 511, 1023, 511, 4095, 8191, 16383, 32767, 65535, 65535, 196607, 524287, 65535, 65535, 2162687, 8388607, 16777215, 33554431, 67108863] 8926208 23461959 [(0, none), (1, none), (2, none), (3, none), (4, none), (5, none), (6, none), (7, none), (8, none), (9, none), (11, none), (10, some []), (12, some []), (13, some []), (14, none), (15, none), (16, none), (17, none), (18, none), (20, none), (21, none), (22, none), (19, some [21, 22]), (23, some []), (24, none), (25, none), (26, none)] mixed ?hB ?_; (case hB => decide +kernel); simp only [Flow.textOf, List.map_cons, List.map_nil, Option.map_none, Option.map_some, Array.getD_eq_getD_getElem?, List.getElem?_toArray, List.getElem?_cons_zero, List.getElem?_cons_succ, Option.getD_some, Flow.wpFl, Flow.SameAll]) | (refine Flow.region_still mixed ?hB ?_; (case hB => decide +kernel)))
            obtain ⟨wq, hwq⟩ : ∃ wq, wq = ((w6.setCell ⟨w5.heap.size, 0, none⟩ (.int .i64 e2.kind)).setCell ⟨w5.heap.size, 1, none⟩ (.int .i64 e2.thread)).setCell ⟨w5.heap.size, 2, none⟩ (.int .i64 e2.n) := ⟨_, rfl⟩
            rw [← hwq]
            obtain ⟨hEq, hFq⟩ := Blk.put3 HE6.out (.int .i64 e2.kind) (.int .i64 e2.thread) (.int .i64 e2.n)
            rw [← hwq] at hEq hFq
            have HPq := hid (HP6.out.frS hFq (fun k h1 h2 => by have := z5 k h1; omega) (fun k h1 h2 => by have := y5 k h1; omega) (fun k h => by omega))
            have HBq := hid (HB6.out.fr hFq (by omega))
            have HEq := hid hEq
            have hsz7 : w5.heap.size < wq.heap.size := hEq.lt
            clear hwq hEq hFq HP6 HB6 HE6 q6 q7 q8 q9 q10 q11 d1 d2 d3 c1 c2 c3
            go_at_call 9
            refine (HPq.out.turnB thread (fuel + more) (by omega)).mono ?_
            rintro e w7 ⟨rfl, hp, hf⟩
            dsimp only [evV]
            rw [HBC.out]
            rw [HBC.out] at hp
            dsimp only at hp ⊢
            have HP7 := hid (hp.frm (show Fr (fun _ => False) w7 (w7.alloc (.cells #[.int .i64 e2.kind, .int .i64 e2.thread, .int .i64 e2.n] 32)) by (repeat' (first | with_reducible exact Fr.refl _ _ | with_reducible apply Fr.alloc | with_reducible apply Fr.drew | with_reducible apply Fr.drewN | (with_reducible refine Fr.setCell ?_ ?_ _)))))
            have HB7 := hid ((HBq.out.fr hf (fun h => by have := HPq.out.newB _ h; omega)).alloc (.cells #[.int .i64 e2.kind, .int .i64 e2.thread, .int .i64 e2.n] 32))
            have HE7 := hid ((HEq.out.fr hf (fun h => by have := y5 _ h; omega)).alloc (.cells #[.int .i64 e2.kind, .int .i64 e2.thread, .int .i64 e2.n] 32))
            have HG7 := hid (Blk.new w7 #[.int .i64 e2.kind, .int .i64 e2.thread, .int .i64 e2.n] 32)
            have hsz8 : w5.heap.size < w7.heap.size := Nat.lt_of_lt_of_le hsz7 hf.size
            clear hp hf HPq HBq HEq HBC
            have q0 := HE7.out.cell 0
            have q1 := HE7.out.cell 1
            have q2 := HE7.out.cell 2
            go_wp2_with (first | fail | still_step | (with_reducible refine wpStill_nil ?_) | (with_reducible refine Flow.Both.mk ?_ ?_) | (with_reducible exact True.intro) | (with_reducible refine Flow.same_mk rfl rfl rfl ?_; go_simp; done) | (with_reducible exact Flow.same_un rfl rfl rfl) | (with_reducible refine Flow.region_flow (id := 18) [0, 0, 3, 7, 15, 15, 63, 127, 255, 511, 1023, 511, 4095, 8191, 16383, 32767, 65535, 65535, 196607, 524287, 65535, 65535, 2162687, 8388607, 16777215, 33554431, 67108863] 8926208 23461959 [(0, none), (1, none), (2, none), (3, none), (4, none), (5, none), (6, none), (7, none), (8, none), (9, none), (11, none), (10, some []), (12, some []), (13, some []), (14, none), (15, none), (16, none), (17, none), (18, none), (20, none), (21, none), (22, none), (19, some [21, 22]), (23, some []), (24, none), (25, none), (26, none)] mixed ?hB ?_; (case hB => decide +kernel); simp only [Flow.textOf, List.map_cons, List.map_nil, Option.map_none, Option.map_some, Array.getD_eq_getD_getElem?, List.getElem?_toArray, List.getElem?_cons_zero, List.getElem?_cons_succ, Option.getD_some, Flow.wpFl, Flow.SameAll]) | (refine Flow.region_still mixed ?hB ?_; (case hB => decide +kernel)))
            go_at_call 11
            have hmA := memory_at (HP7.out.frm (show Fr (fun _ => False) _ ((w7.alloc (.cells #[.int .i64 e2.kind, .int .i64 e2.thread, .int .i64 e2.n] 32)).drew) by (repeat' (first | with_reducible exact Fr.refl _ _ | with_reducible apply Fr.alloc | with_reducible apply Fr.drew | with_reducible apply Fr.drewN | (with_reducible refine Fr.setCell ?_ ?_ _))))).a (by omega)
            rw [hmem] at hmA
            refine hmA.mono ?_
            rintro e w8 ⟨ra, rc, rfl, ho, hf⟩
            have hfx := (show Fr (fun _ => False) (w7.alloc (.cells #[.int .i64 e2.kind, .int .i64 e2.thread, .int .i64 e2.n] 32)) ((w7.alloc (.cells #[.int .i64 e2.kind, .int .i64 e2.thread, .int .i64 e2.n] 32)).drew) by (repeat' (first | with_reducible exact Fr.refl _ _ | with_reducible apply Fr.alloc | with_reducible apply Fr.drew | with_reducible apply Fr.drewN | (with_reducible refine Fr.setCell ?_ ?_ _)))).trans hf (fun _ _ h => h)
            have HOA := hid ho.vw
            have HPn := hid (HP7.out.frm hfx)
            have HBn := hid (HB7.out.fr hfx (fun h => h))
            have HEn := hid (HE7.out.fr hfx (fun h => h))
            have HGn := hid (HG7.out.fr hfx (fun h => h))
            clear HP7 HB7 HE7 HG7 q0 q1 q2
            have HP7 := hid HPn.out
            have HB7 := hid HBn.out
            have HE7 := hid HEn.out
            have HG7 := hid HGn.out
            clear HPn HBn HEn HGn
            have q0 := HE7.out.cell 0
            have q1 := HE7.out.cell 1
            have q2 := HE7.out.cell 2
            have p0 := HG7.out.cell 0
            have p1 := HG7.out.cell 1
            have p2 := HG7.out.cell 2
            have r1 := HB7.out.cell 1
            clear hf hfx ho hmA
            go_wp2_with (first | fail | still_step | (with_reducible refine wpStill_nil ?_) | (with_reducible refine Flow.Both.mk ?_ ?_) | (with_reducible exact True.intro) | (with_reducible refine Flow.same_mk rfl rfl rfl ?_; go_simp; done) | (with_reducible exact Flow.same_un rfl rfl rfl) | (with_reducible refine Flow.region_flow (id := 18) [0, 0, 3, 7, 15, 15, 63, 127, 255, 511, 1023, 511, 4095, 8191, 16383, 32767, 65535, 65535, 196607, 524287, 65535, 65535, 2162687, 8388607, 16777215, 33554431, 67108863] 8926208 23461959 [(0, none), (1, none), (2, none), (3, none), (4, none), (5, none), (6, none), (7, none), (8, none), (9, none), (11, none), (10, some []), (12, some []), (13, some []), (14, none), (15, none), (16, none), (17, none), (18, none), (20, none), (21, none), (22, none), (19, some [21, 22]), (23, some []), (24, none), (25, none), (26, none)] mixed ?hB ?_; (case hB => decide +kernel); simp only [Flow.textOf, List.map_cons, List.map_nil, Option.map_none, Option.map_some, Array.getD_eq_getD_getElem?, List.getElem?_toArray, List.getElem?_cons_zero, List.getElem?_cons_succ, Option.getD_some, Flow.wpFl, Flow.SameAll]) | (refine Flow.region_still mixed ?hB ?_; (case hB => decide +kernel)))
            go_at_call 11
            have hmB := memory_at HP7.out.b (by omega)
            rw [hmem] at hmB
            refine hmB.mono ?_
            rintro e w9 ⟨sa, sc, rfl, ho, hf⟩
            have HOB := hid ho.vw
            have HOA2 := hid (HOA.out.fr hf (fun _ _ h => h))
            have HPn := hid (HP7.out.frm hf)
            have HBn := hid (HB7.out.fr hf (fun h => h))
            have HEn := hid (HE7.out.fr hf (fun h => h))
            have HGn := hid (HG7.out.fr hf (fun h => h))
            clear HP7 HB7 HE7 HG7 q0 q1 q2 p0 p1 p2 r1
            have HP7 := hid HPn.out
            have HB7 := hid HBn.out
            have HE7 := hid HEn.out
            have HG7 := hid HGn.out
            clear HPn HBn HEn HGn
            have q0 := HE7.out.cell 0
            have q1 := HE7.out.cell 1
            have q2 := HE7.out.cell 2
            have p0 := HG7.out.cell 0
            have p1 := HG7.out.cell 1
            have p2 := HG7.out.cell 2
            have r1 := HB7.out.cell 1
            clear hf ho hmB HOA
            go_wp2_with (first | fail | still_step | (with_reducible refine wpStill_nil ?_) | (with_reducible refine Flow.Both.mk ?_ ?_) | (with_reducible exact True.intro) | (with_reducible refine Flow.same_mk rfl rfl rfl ?_; go_simp; done) | (with_reducible exact Flow.same_un rfl rfl rfl) | (with_reducible refine Flow.region_flow (id := 18) [0, 0, 3, 7, 15, 15, 63, 127, 255, 511, 1023, 511, 4095, 8191, 16383, 32767, 65535, 65535, 196607, 524287, 65535, 65535, 2162687, 8388607, 16777215, 33554431, 67108863] 8926208 23461959 [(0, none), (1, none), (2, none), (3, none), (4, none), (5, none), (6, none), (7, none), (8, none), (9, none), (11, none), (10, some []), (12, some []), (13, some []), (14, none), (15, none), (16, none), (17, none), (18, none), (20, none), (21, none), (22, none), (19, some [21, 22]), (23, some []), (24, none), (25, none), (26, none)] mixed ?hB ?_; (case hB => decide +kernel); simp only [Flow.textOf, List.map_cons, List.map_nil, Option.map_none, Option.map_some, Array.getD_eq_getD_getElem?, List.getElem?_toArray, List.getElem?_cons_zero, List.getElem?_cons_succ, Option.getD_some, Flow.wpFl, Flow.SameAll]) | (refine Flow.region_still mixed ?hB ?_; (case hB => decide +kernel)))
            go_at_call 10
            have hnum := numbers_is _ _ ra sa rc sc m2.mem m2.mem w9 (by rw [hmem]; exact HOA2.out) (by rw [hmem]; exact HOB.out) (by omega)
            rw [hmem, show decide (m2.mem = m2.mem) = true from by simp] at hnum
            refine hnum.mono ?_
            rintro e w10 ⟨rfl, hf⟩
            have HPn := hid (HP7.out.frm hf)
            have HBn := hid (HB7.out.fr hf (fun h => h))
            have HEn := hid (HE7.out.fr hf (fun h => h))
            have HGn := hid (HG7.out.fr hf (fun h => h))
            clear HP7 HB7 HE7 HG7 q0 q1 q2 p0 p1 p2 r1
            have HP7 := hid HPn.out
            have HB7 := hid HBn.out
            have HE7 := hid HEn.out
            have HG7 := hid HGn.out
            clear HPn HBn HEn HGn
            have q0 := HE7.out.cell 0
            have q1 := HE7.out.cell 1
            have q2 := HE7.out.cell 2
            have p0 := HG7.out.cell 0
            have p1 := HG7.out.cell 1
            have p2 := HG7.out.cell 2
            have r1 := HB7.out.cell 1
            clear hf hnum
            go_wp2_with (first | fail | still_step | (with_reducible refine wpStill_nil ?_) | (with_reducible refine Flow.Both.mk ?_ ?_) | (with_reducible exact True.intro) | (with_reducible refine Flow.same_mk rfl rfl rfl ?_; go_simp; done) | (with_reducible exact Flow.same_un rfl rfl rfl) | (with_reducible refine Flow.region_flow (id := 18) [0, 0, 3, 7, 15, 15, 63, 127, 255, 511, 1023, 511, 4095, 8191, 16383, 32767, 65535, 65535, 196607, 524287, 65535, 65535, 2162687, 8388607, 16777215, 33554431, 67108863] 8926208 23461959 [(0, none), (1, none), (2, none), (3, none), (4, none), (5, none), (6, none), (7, none), (8, none), (9, none), (11, none), (10, some []), (12, some []), (13, some []), (14, none), (15, none), (16, none), (17, none), (18, none), (20, none), (21, none), (22, none), (19, some [21, 22]), (23, some []), (24, none), (25, none), (26, none)] mixed ?hB ?_; (case hB => decide +kernel); simp only [Flow.textOf, List.map_cons, List.map_nil, Option.map_none, Option.map_some, Array.getD_eq_getD_getElem?, List.getElem?_toArray, List.getElem?_cons_zero, List.getElem?_cons_succ, Option.getD_some, Flow.wpFl, Flow.SameAll]) | (refine Flow.region_still mixed ?hB ?_; (case hB => decide +kernel)))
            go_at_call 12
            refine (place_at HP7.out.a thread).mono ?_
            rintro e w11 ⟨rfl, hf⟩
            have HPn := hid (HP7.out.frm hf)
            have HBn := hid (HB7.out.fr hf (fun h => h))
            have HEn := hid (HE7.out.fr hf (fun h => h))
            have HGn := hid (HG7.out.fr hf (fun h => h))
            clear HP7 HB7 HE7 HG7 q0 q1 q2 p0 p1 p2 r1
            have HP7 := hid HPn.out
            have HB7 := hid HBn.out
            have HE7 := hid HEn.out
            have HG7 := hid HGn.out
            clear HPn HBn HEn HGn
            have q0 := HE7.out.cell 0
            have q1 := HE7.out.cell 1
            have q2 := HE7.out.cell 2
            have p0 := HG7.out.cell 0
            have p1 := HG7.out.cell 1
            have p2 := HG7.out.cell 2
            have r1 := HB7.out.cell 1
            clear hf
            go_wp2_with (first | fail | still_step | (with_reducible refine wpStill_nil ?_) | (with_reducible refine Flow.Both.mk ?_ ?_) | (with_reducible exact True.intro) | (with_reducible refine Flow.same_mk rfl rfl rfl ?_; go_simp; done) | (with_reducible exact Flow.same_un rfl rfl rfl) | (with_reducible refine Flow.region_flow (id := 18) [0, 0, 3, 7, 15, 15, 63, 127, 255, 511, 1023, 511, 4095, 8191, 16383, 32767, 65535, 65535, 196607, 524287, 65535, 65535, 2162687, 8388607, 16777215, 33554431, 67108863] 8926208 23461959 [(0, none), (1, none), (2, none), (3, none), (4, none), (5, none), (6, none), (7, none), (8, none), (9, none), (11, none), (10, some []), (12, some []), (13, some []), (14, none), (15, none), (16, none), (17, none), (18, none), (20, none), (21, none), (22, none), (19, some [21, 22]), (23, some []), (24, none), (25, none), (26, none)] mixed ?hB ?_; (case hB => decide +kernel); simp only [Flow.textOf, List.map_cons, List.map_nil, Option.map_none, Option.map_some, Array.getD_eq_getD_getElem?, List.getElem?_toArray, List.getElem?_cons_zero, List.getElem?_cons_succ, Option.getD_some, Flow.wpFl, Flow.SameAll]) | (refine Flow.region_still mixed ?hB ?_; (case hB => decide +kernel)))
            go_at_call 12
            refine (place_at HP7.out.b thread).mono ?_
            rintro e w12 ⟨rfl, hf⟩
            have HPn := hid (HP7.out.frm hf)
            have HBn := hid (HB7.out.fr hf (fun h => h))
            have HEn := hid (HE7.out.fr hf (fun h => h))
            have HGn := hid (HG7.out.fr hf (fun h => h))
            clear HP7 HB7 HE7 HG7 q0 q1 q2 p0 p1 p2 r1
            have HP7 := hid HPn.out
            have HB7 := hid HBn.out
            have HE7 := hid HEn.out
            have HG7 := hid HGn.out
            clear HPn HBn HEn HGn
            have q0 := HE7.out.cell 0
            have q1 := HE7.out.cell 1
            have q2 := HE7.out.cell 2
            have p0 := HG7.out.cell 0
            have p1 := HG7.out.cell 1
            have p2 := HG7.out.cell 2
            have r1 := HB7.out.cell 1
            clear hf
            go_wp2_with (first | fail | still_step | (with_reducible refine wpStill_nil ?_) | (with_reducible refine Flow.Both.mk ?_ ?_) | (with_reducible exact True.intro) | (with_reducible refine Flow.same_mk rfl rfl rfl ?_; go_simp; done) | (with_reducible exact Flow.same_un rfl rfl rfl) | (with_reducible refine Flow.region_flow (id := 18) [0, 0, 3, 7, 15, 15, 63, 127, 255, 511, 1023, 511, 4095, 8191, 16383, 32767, 65535, 65535, 196607, 524287, 65535, 65535, 2162687, 8388607, 16777215, 33554431, 67108863] 8926208 23461959 [(0, none), (1, none), (2, none), (3, none), (4, none), (5, none), (6, none), (7, none), (8, none), (9, none), (11, none), (10, some []), (12, some []), (13, some []), (14, none), (15, none), (16, none), (17, none), (18, none), (20, none), (21, none), (22, none), (19, some [21, 22]), (23, some []), (24, none), (25, none), (26, none)] mixed ?hB ?_; (case hB => decide +kernel); simp only [Flow.textOf, List.map_cons, List.map_nil, Option.map_none, Option.map_some, Array.getD_eq_getD_getElem?, List.getElem?_toArray, List.getElem?_cons_zero, List.getElem?_cons_succ, Option.getD_some, Flow.wpFl, Flow.SameAll]) | (refine Flow.region_still mixed ?hB ?_; (case hB => decide +kernel)))
            go_ret
            exact ⟨by simp, HP7.out.fr.below (Nat.le_refl _) (fun _ _ h => h)⟩
          · have hdone := turn_done mk thread fuel more g2 g4 htired
            have HBC := hid hdone
            have HTI := hid htired
            obtain ⟨res, hres⟩ : ∃ res, res = mk.turn thread fuel := ⟨_, rfl⟩
            have hmem : res.1.mem.length = L := by rw [hres, (turn_len _ _ _).1]; exact HMK.out
            rw [← hres] at HP5 HBC HTI
            rw [← hres]
            clear hdone htired hres
            obtain ⟨m1, e1, x1⟩ := res
            have hne3 : x1 ≠ 3 := HTI.out
            dsimp only at *
            have HE5 := hid (Blk.new w5 #[.int .i64 e1.kind, .int .i64 e1.thread, .int .i64 e1.n] 32)
            have HP5' := hid (HP5.out.frm (show Fr (fun _ => False) w5 (w5.alloc (.cells #[.int .i64 e1.kind, .int .i64 e1.thread, .int .i64 e1.n] 32)) by (repeat' (first | with_reducible exact Fr.refl _ _ | with_reducible apply Fr.alloc | with_reducible apply Fr.drew | with_reducible apply Fr.drewN | (with_reducible refine Fr.setCell ?_ ?_ _)))))
            have HB5' := hid (HB5.out.alloc (.cells #[.int .i64 e1.kind, .int .i64 e1.thread, .int .i64 e1.n] 32))
            have y5 : ∀ k, RB k → k < w5.heap.size := HP5.out.b.lt
            have c1 := HB5.out.cell 1
            have c2 := HB5.out.cell 2
            have c3 := HB5.out.cell 3
            have cl := HB5.out.lt
            clear HP HP5 HB HB5 HTI
            go_wp2_with (first | fail | still_step | (with_reducible refine wpStill_nil ?_) | (with_reducible refine Flow.Both.mk ?_ ?_) | (with_reducible exact True.intro) | (with_reducible refine Flow.same_mk rfl rfl rfl ?_; go_simp; done) | (with_reducible exact Flow.same_un rfl rfl rfl) | (with_reducible refine Flow.region_flow (id := 18) [0, 0, 3, 7, 15, 15, 63, 127, 255, 511, 1023, 511, 4095, 8191, 16383, 32767, 65535, 65535, 196607, 524287, 65535, 65535, 2162687, 8388607, 16777215, 33554431, 67108863] 8926208 23461959 [(0, none), (1, none), (2, none), (3, none), (4, none), (5, none), (6, none), (7, none), (8, none), (9, none), (11, none), (10, some []), (12, some []), (13, some []), (14, none), (15, none), (16, none), (17, none), (18, none), (20, none), (21, none), (22, none), (19, some [21, 22]), (23, some []), (24, none), (25, none), (26, none)] mixed ?hB ?_; (case hB => decide +kernel); simp only [Flow.textOf, List.map_cons, List.map_nil, Option.map_none, Option.map_some, Array.getD_eq_getD_getElem?, List.getElem?_toArray, List.getElem?_cons_zero, List.getElem?_cons_succ, Option.getD_some, Flow.wpFl, Flow.SameAll]) | (refine Flow.region_still mixed ?hB ?_; (case hB => decide +kernel)))
            go_at_call 9
            refine (HP5'.out.turnB thread (fuel + more) (by omega)).mono ?_
            rintro e w7 ⟨rfl, hp, hf⟩
            dsimp only [evV]
            rw [HBC.out]
            rw [HBC.out] at hp
            dsimp only at hp ⊢
            have HP7 := hid (hp.frm (show Fr (fun _ => False) w7 (w7.alloc (.cells #[.int .i64 e1.kind, .int .i64 e1.thread, .int .i64 e1.n] 32)) by (repeat' (first | with_reducible exact Fr.refl _ _ | with_reducible apply Fr.alloc | with_reducible apply Fr.drew | with_reducible apply Fr.drewN | (with_reducible refine Fr.setCell ?_ ?_ _)))))
            have HB7 := hid ((HB5'.out.fr hf (fun h => by have := HP5'.out.newB _ h; omega)).alloc (.cells #[.int .i64 e1.kind, .int .i64 e1.thread, .int .i64 e1.n] 32))
            have HE7 := hid ((HE5.out.fr hf (fun h => by have := y5 _ h; omega)).alloc (.cells #[.int .i64 e1.kind, .int .i64 e1.thread, .int .i64 e1.n] 32))
            have HG7 := hid (Blk.new w7 #[.int .i64 e1.kind, .int .i64 e1.thread, .int .i64 e1.n] 32)
            have hsz8 : w5.heap.size < w7.heap.size := (HE5.out.fr hf (fun h => by have := y5 _ h; omega)).lt
            clear hp hf HP5' HB5' HE5 HBC
            have q0 := HE7.out.cell 0
            have q1 := HE7.out.cell 1
            have q2 := HE7.out.cell 2
            go_wp2_with (first | fail | still_step | (with_reducible refine wpStill_nil ?_) | (with_reducible refine Flow.Both.mk ?_ ?_) | (with_reducible exact True.intro) | (with_reducible refine Flow.same_mk rfl rfl rfl ?_; go_simp; done) | (with_reducible exact Flow.same_un rfl rfl rfl) | (with_reducible refine Flow.region_flow (id := 18) [0, 0, 3, 7, 15, 15, 63, 127, 255, 511, 1023, 511, 4095, 8191, 16383, 32767, 65535, 65535, 196607, 524287, 65535, 65535, 2162687, 8388607, 16777215, 33554431, 67108863] 8926208 23461959 [(0, none), (1, none), (2, none), (3, none), (4, none), (5, none), (6, none), (7, none), (8, none), (9, none), (11, none), (10, some []), (12, some []), (13, some []), (14, none), (15, none), (16, none), (17, none), (18, none), (20, none), (21, none), (22, none), (19, some [21, 22]), (23, some []), (24, none), (25, none), (26, none)] mixed ?hB ?_; (case hB => decide +kernel); simp only [Flow.textOf, List.map_cons, List.map_nil, Option.map_none, Option.map_some, Array.getD_eq_getD_getElem?, List.getElem?_toArray, List.getElem?_cons_zero, List.getElem?_cons_succ, Option.getD_some, Flow.wpFl, Flow.SameAll]) | (refine Flow.region_still mixed ?hB ?_; (case hB => decide +kernel)))
            go_at_call 11
            have hmA := memory_at HP7.out.a (by omega)
            rw [hmem] at hmA
            refine hmA.mono ?_
            rintro e w8 ⟨ra, rc, rfl, ho, hf⟩
            have hfx := hf
            have HOA := hid ho.vw
            have HPn := hid (HP7.out.frm hfx)
            have HBn := hid (HB7.out.fr hfx (fun h => h))
            have HEn := hid (HE7.out.fr hfx (fun h => h))
            have HGn := hid (HG7.out.fr hfx (fun h => h))
            clear HP7 HB7 HE7 HG7 q0 q1 q2
            have HP7 := hid HPn.out
            have HB7 := hid HBn.out
            have HE7 := hid HEn.out
            have HG7 := hid HGn.out
            clear HPn HBn HEn HGn
            have q0 := HE7.out.cell 0
            have q1 := HE7.out.cell 1
            have q2 := HE7.out.cell 2
            have p0 := HG7.out.cell 0
            have p1 := HG7.out.cell 1
            have p2 := HG7.out.cell 2
            have r1 := HB7.out.cell 1
            clear hf hfx ho hmA
            go_wp2_with (first | fail | still_step | (with_reducible refine wpStill_nil ?_) | (with_reducible refine Flow.Both.mk ?_ ?_) | (with_reducible exact True.intro) | (with_reducible refine Flow.same_mk rfl rfl rfl ?_; go_simp; done) | (with_reducible exact Flow.same_un rfl rfl rfl) | (with_reducible refine Flow.region_flow (id := 18) [0, 0, 3, 7, 15, 15, 63, 127, 255, 511, 1023, 511, 4095, 8191, 16383, 32767, 65535, 65535, 196607, 524287, 65535, 65535, 2162687, 8388607, 16777215, 33554431, 67108863] 8926208 23461959 [(0, none), (1, none), (2, none), (3, none), (4, none), (5, none), (6, none), (7, none), (8, none), (9, none), (11, none), (10, some []), (12, some []), (13, some []), (14, none), (15, none), (16, none), (17, none), (18, none), (20, none), (21, none), (22, none), (19, some [21, 22]), (23, some []), (24, none), (25, none), (26, none)] mixed ?hB ?_; (case hB => decide +kernel); simp only [Flow.textOf, List.map_cons, List.map_nil, Option.map_none, Option.map_some, Array.getD_eq_getD_getElem?, List.getElem?_toArray, List.getElem?_cons_zero, List.getElem?_cons_succ, Option.getD_some, Flow.wpFl, Flow.SameAll]) | (refine Flow.region_still mixed ?hB ?_; (case hB => decide +kernel)))
            go_at_call 11
            have hmB := memory_at HP7.out.b (by omega)
            rw [hmem] at hmB
            refine hmB.mono ?_
            rintro e w9 ⟨sa, sc, rfl, ho, hf⟩
            have HOB := hid ho.vw
            have HOA2 := hid (HOA.out.fr hf (fun _ _ h => h))
            have HPn := hid (HP7.out.frm hf)
            have HBn := hid (HB7.out.fr hf (fun h => h))
            have HEn := hid (HE7.out.fr hf (fun h => h))
            have HGn := hid (HG7.out.fr hf (fun h => h))
            clear HP7 HB7 HE7 HG7 q0 q1 q2 p0 p1 p2 r1
            have HP7 := hid HPn.out
            have HB7 := hid HBn.out
            have HE7 := hid HEn.out
            have HG7 := hid HGn.out
            clear HPn HBn HEn HGn
            have q0 := HE7.out.cell 0
            have q1 := HE7.out.cell 1
            have q2 := HE7.out.cell 2
            have p0 := HG7.out.cell 0
            have p1 := HG7.out.cell 1
            have p2 := HG7.out.cell 2
            have r1 := HB7.out.cell 1
            clear hf ho hmB HOA
            go_wp2_with (first | fail | still_step | (with_reducible refine wpStill_nil ?_) | (with_reducible refine Flow.Both.mk ?_ ?_) | (with_reducible exact True.intro) | (with_reducible refine Flow.same_mk rfl rfl rfl ?_; go_simp; done) | (with_reducible exact Flow.same_un rfl rfl rfl) | (with_reducible refine Flow.region_flow (id := 18) [0, 0, 3, 7, 15, 15, 63, 127, 255, 511, 1023, 511, 4095, 8191, 16383, 32767, 65535, 65535, 196607, 524287, 65535, 65535, 2162687, 8388607, 16777215, 33554431, 67108863] 8926208 23461959 [(0, none), (1, none), (2, none), (3, none), (4, none), (5, none), (6, none), (7, none), (8, none), (9, none), (11, none), (10, some []), (12, some []), (13, some []), (14, none), (15, none), (16, none), (17, none), (18, none), (20, none), (21, none), (22, none), (19, some [21, 22]), (23, some []), (24, none), (25, none), (26, none)] mixed ?hB ?_; (case hB => decide +kernel); simp only [Flow.textOf, List.map_cons, List.map_nil, Option.map_none, Option.map_some, Array.getD_eq_getD_getElem?, List.getElem?_toArray, List.getElem?_cons_zero, List.getElem?_cons_succ, Option.getD_some, Flow.wpFl, Flow.SameAll]) | (refine Flow.region_still mixed ?hB ?_; (case hB => decide +kernel)))
            go_at_call 10
            have hnum := numbers_is _ _ ra sa rc sc m1.mem m1.mem w9 (by rw [hmem]; exact HOA2.out) (by rw [hmem]; exact HOB.out) (by omega)
            rw [hmem, show decide (m1.mem = m1.mem) = true from by simp] at hnum
            refine hnum.mono ?_
            rintro e w10 ⟨rfl, hf⟩
            have HPn := hid (HP7.out.frm hf)
            have HBn := hid (HB7.out.fr hf (fun h => h))
            have HEn := hid (HE7.out.fr hf (fun h => h))
            have HGn := hid (HG7.out.fr hf (fun h => h))
            clear HP7 HB7 HE7 HG7 q0 q1 q2 p0 p1 p2 r1
            have HP7 := hid HPn.out
            have HB7 := hid HBn.out
            have HE7 := hid HEn.out
            have HG7 := hid HGn.out
            clear HPn HBn HEn HGn
            have q0 := HE7.out.cell 0
            have q1 := HE7.out.cell 1
            have q2 := HE7.out.cell 2
            have p0 := HG7.out.cell 0
            have p1 := HG7.out.cell 1
            have p2 := HG7.out.cell 2
            have r1 := HB7.out.cell 1
            clear hf hnum
            go_wp2_with (first | fail | still_step | (with_reducible refine wpStill_nil ?_) | (with_reducible refine Flow.Both.mk ?_ ?_) | (with_reducible exact True.intro) | (with_reducible refine Flow.same_mk rfl rfl rfl ?_; go_simp; done) | (with_reducible exact Flow.same_un rfl rfl rfl) | (with_reducible refine Flow.region_flow (id := 18) [0, 0, 3, 7, 15, 15, 63, 127, 255, 511, 1023, 511, 4095, 8191, 16383, 32767, 65535, 65535, 196607, 524287, 65535, 65535, 2162687, 8388607, 16777215, 33554431, 67108863] 8926208 23461959 [(0, none), (1, none), (2, none), (3, none), (4, none), (5, none), (6, none), (7, none), (8, none), (9, none), (11, none), (10, some []), (12, some []), (13, some []), (14, none), (15, none), (16, none), (17, none), (18, none), (20, none), (21, none), (22, none), (19, some [21, 22]), (23, some []), (24, none), (25, none), (26, none)] mixed ?hB ?_; (case hB => decide +kernel); simp only [Flow.textOf, List.map_cons, List.map_nil, Option.map_none, Option.map_some, Array.getD_eq_getD_getElem?, List.getElem?_toArray, List.getElem?_cons_zero, List.getElem?_cons_succ, Option.getD_some, Flow.wpFl, Flow.SameAll]) | (refine Flow.region_still mixed ?hB ?_; (case hB => decide +kernel)))
            go_ret
            exact ⟨by simp, HP7.out.fr.below (Nat.le_refl _) (fun _ _ h => h)⟩
    · have hsp : 40 < T ∨ (T ≤ 40 ∧ fuel < 0) ∨ (T ≤ 40 ∧ 0 ≤ fuel ∧ 100 < fuel) ∨ (T ≤ 40 ∧ 0 ≤ fuel ∧ fuel ≤ 100 ∧ more < 0) ∨ (T ≤ 40 ∧ 0 ≤ fuel ∧ fuel ≤ 100 ∧ 0 ≤ more ∧ 100 < more) := by omega
      clear hgo
      rcases hsp with h | ⟨h, h2⟩ | ⟨h, h2, h3⟩ | ⟨h, h2, h3, h4⟩ | ⟨h, h2, h3, h4, h5⟩
      all_goals
        go_wp2_with (first | fail | still_step | (with_reducible refine wpStill_nil ?_) | (with_reducible refine Flow.Both.mk ?_ ?_) | (with_reducible exact True.intro) | (with_reducible refine Flow.same_mk rfl rfl rfl ?_; go_simp; done) | (with_reducible exact Flow.same_un rfl rfl rfl) | (with_reducible refine Flow.region_flow (id := 18) [0, 0, 3, 7, 15, 15, 63, 127, 255, 511, 1023, 511, 4095, 8191, 16383, 32767, 65535, 65535, 196607, 524287, 65535, 65535, 2162687, 8388607, 16777215, 33554431, 67108863] 8926208 23461959 [(0, none), (1, none), (2, none), (3, none), (4, none), (5, none), (6, none), (7, none), (8, none), (9, none), (11, none), (10, some []), (12, some []), (13, some []), (14, none), (15, none), (16, none), (17, none), (18, none), (20, none), (21, none), (22, none), (19, some [21, 22]), (23, some []), (24, none), (25, none), (26, none)] mixed ?hB ?_; (case hB => decide +kernel); simp only [Flow.textOf, List.map_cons, List.map_nil, Option.map_none, Option.map_some, Array.getD_eq_getD_getElem?, List.getElem?_toArray, List.getElem?_cons_zero, List.getElem?_cons_succ, Option.getD_some, Flow.wpFl, Flow.SameAll]) | (refine Flow.region_still mixed ?hB ?_; (case hB => decide +kernel)))
        go_ret
        exact ⟨rfl, HF2.out.below (Nat.le_refl _) (fun _ _ h => h)⟩
  · have hs : smallB qs L = false := by simpa using hs
    rw [hs]
    go_wp2_with (first | fail | still_step | (with_reducible refine wpStill_nil ?_) | (with_reducible refine Flow.Both.mk ?_ ?_) | (with_reducible exact True.intro) | (with_reducible refine Flow.same_mk rfl rfl rfl ?_; go_simp; done) | (with_reducible exact Flow.same_un rfl rfl rfl) | (with_reducible refine Flow.region_flow (id := 18) [0, 0, 3, 7, 15, 15, 63, 127, 255, 511, 1023, 511, 4095, 8191, 16383, 32767, 65535, 65535, 196607, 524287, 65535, 65535, 2162687, 8388607, 16777215, 33554431, 67108863] 8926208 23461959 [(0, none), (1, none), (2, none), (3, none), (4, none), (5, none), (6, none), (7, none), (8, none), (9, none), (11, none), (10, some []), (12, some []), (13, some []), (14, none), (15, none), (16, none), (17, none), (18, none), (20, none), (21, none), (22, none), (19, some [21, 22]), (23, some []), (24, none), (25, none), (26, none)] mixed ?hB ?_; (case hB => decide +kernel); simp only [Flow.textOf, List.map_cons, List.map_nil, Option.map_none, Option.map_some, Array.getD_eq_getD_getElem?, List.getElem?_toArray, List.getElem?_cons_zero, List.getElem?_cons_succ, Option.getD_some, Flow.wpFl, Flow.SameAll]) | (refine Flow.region_still mixed ?hB ?_; (case hB => decide +kernel)))
    go_ret
    exact ⟨rfl, HF2.out.below (Nat.le_refl _) (fun _ _ h => h)⟩
end Go.Proofs.Ytokmdjpaegaojaa.Seq
