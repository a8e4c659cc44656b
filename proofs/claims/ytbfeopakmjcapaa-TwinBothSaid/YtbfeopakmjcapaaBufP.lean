/-
  What the functions of package buffer do: New, Push, Pop, Len, Cut, All, Get, Onto; the room is from 1 to 1000.
-/
import Derived.Test.YtbfeopakmjcapaaBase
set_option linter.unusedVariables false
set_option linter.unusedSimpArgs false
set_option maxHeartbeats 4000000
set_option maxRecDepth 8000
namespace Go.Proofs.Ytbfeopakmjcapaa
open Go.RowKit
attribute [local irreducible] wpStill wpList Calls CallsIn

theorem infoENT : (Try.prog.info? 124).map (fun i => (i.zero, i.size, i.bytes)) = some (some (.agg #[.int .i64 0, .int .i64 0]), 2, 16) := by kernel_rfl

/-- Stores that wait, as cells. -/
def ent : List (Int × Int) → List Value
  | [] => []
  | e :: r => .int .i64 e.1 :: .int .i64 e.2 :: ent r

theorem ent_length (l : List (Int × Int)) : (ent l).length = l.length * 2 := by
  induction l with
  | nil => rfl
  | cons e r ih => simp [ent, ih, Nat.add_mul]
theorem ent_append (l r : List (Int × Int)) : ent (l ++ r) = ent l ++ ent r := by
  induction l with
  | nil => rfl
  | cons e l ih => simp [ent, ih]
theorem ent_take (l : List (Int × Int)) : ∀ n, (ent l).take (n * 2) = ent (l.take n) := by
  induction l with
  | nil => intro n; simp [ent]
  | cons e l ih =>
    intro n
    cases n with
    | zero => simp [ent]
    | succ n => rw [Nat.add_mul]; simp [ent, ih]
theorem ent_one (l : List (Int × Int)) : ∀ u ∈ ent l, u.oneCell' = true := by
  induction l with
  | nil => intro u h; cases h
  | cons e l ih =>
    intro u h
    simp only [ent, List.mem_cons] at h
    rcases h with rfl | rfl | h
    · rfl
    · rfl
    · exact ih u h

/-- A buffer at a block: its room, and the stores that wait, the oldest one first. -/
def BufRep (w : World) (b : Nat) (R : Nat → Prop) (room : Nat) (l : List (Int × Int)) : Prop :=
  1 ≤ room ∧ room ≤ 1000 ∧ l.length ≤ room ∧ ¬ R b ∧ ∃ ao cap, Blk w b #[.int .i64 room, .slice ao l.length cap] 140 ∧ OwnAt w 124 2 R ao l.length cap (ent l)

namespace BufRep
variable {w w1 : World} {b : Nat} {R S : Nat → Prop} {room : Nat} {l : List (Int × Int)}
theorem fr (h : BufRep w b R room l) (hf : Fr S w w1) (hb : ¬ S b) (hR : ∀ k, R k → ¬ S k) : BufRep w1 b R room l := by
  obtain ⟨h1, h2, h3, h4, ao, cap, hk, ho⟩ := h
  exact ⟨h1, h2, h3, h4, ao, cap, hk.fr hf hb, ho.fr hf hR⟩
theorem mono {R2 : Nat → Prop} (h : BufRep w b R room l) (hr : ∀ k, k < w.heap.size → R k → R2 k) (hb : ¬ R2 b) : BufRep w b R2 room l := by
  obtain ⟨h1, h2, h3, h4, ao, cap, hk, ho⟩ := h
  exact ⟨h1, h2, h3, hb, ao, cap, hk, ho.mono hr⟩
theorem lt (h : BufRep w b R room l) : b < w.heap.size := by
  obtain ⟨h1, h2, h3, h4, ao, cap, hk, ho⟩ := h
  exact hk.lt
end BufRep

set_option maxHeartbeats 400000 in
theorem new_yes (room : Nat) (w : World) (h0 : 1 ≤ room) (h1 : room ≤ 1000) :
    Calls Try.prog 53 #[.int .i64 room] w fun e w' => e = .returned (.pointer (some ⟨w.heap.size, 0, none⟩)) ∧ BufRep w' w.heap.size (fun _ => False) room [] ∧ Fr (fun _ => False) w w' := by
  have e1 : ¬ ((room : Int) < 1) := by omega
  have e2 : ¬ (1000 < (room : Int)) := by omega
  go_enter Try.func53, Try.ntmps53
  go_wp2_with (first | still_step | (with_reducible first | refine wpStill_nil ?_ | refine Flow.Both.mk ?_ ?_ | exact True.intro) | (with_reducible refine Flow.same_mk rfl rfl rfl ?_; go_simp; done) | (with_reducible exact Flow.same_un rfl rfl rfl) | (refine Flow.region_still mixed ?hB ?_; (case hB => decide +kernel)))
  go_ret
  refine ⟨rfl, ⟨h0, h1, by simp, fun h => h, none, 0, ?_, OwnAt.nil _ _ _ _ _⟩, ?_⟩
  · exact Blk.new w _ _
  · exact (Fr.refl _ w).alloc _

set_option maxHeartbeats 400000 in
theorem new_no (room : Int) (w : World) (h : room < 1 ∨ 1000 < room) :
    Calls Try.prog 53 #[.int .i64 room] w fun e w' => e = .returned (.pointer none) ∧ Fr (fun _ => False) w w' := by
  rcases h with h | h
  · go_enter Try.func53, Try.ntmps53
    go_wp2_with (first | still_step | (with_reducible first | refine wpStill_nil ?_ | refine Flow.Both.mk ?_ ?_ | exact True.intro) | (with_reducible refine Flow.same_mk rfl rfl rfl ?_; go_simp; done) | (with_reducible exact Flow.same_un rfl rfl rfl) | (refine Flow.region_still mixed ?hB ?_; (case hB => decide +kernel)))
    go_ret
    exact ⟨rfl, Fr.refl _ w⟩
  · have h' : ¬ (room < 1) := by omega
    go_enter Try.func53, Try.ntmps53
    go_wp2_with (first | still_step | (with_reducible first | refine wpStill_nil ?_ | refine Flow.Both.mk ?_ ?_ | exact True.intro) | (with_reducible refine Flow.same_mk rfl rfl rfl ?_; go_simp; done) | (with_reducible exact Flow.same_un rfl rfl rfl) | (refine Flow.region_still mixed ?hB ?_; (case hB => decide +kernel)))
    go_ret
    exact ⟨rfl, Fr.refl _ w⟩

set_option maxHeartbeats 400000 in
theorem len_yes (b : Nat) (R : Nat → Prop) (room : Nat) (l : List (Int × Int)) (w : World) (hb : BufRep w b R room l) :
    Calls Try.prog 94 #[.pointer (some ⟨b, 0, none⟩)] w fun e w' => e = .returned (.int .i64 l.length) ∧ w = w' := by
  obtain ⟨_, _, _, _, ao, cap, hk, _⟩ := hb
  have c1 := hk.cell 1
  simp at c1
  clear hk
  go_enter Try.func94, Try.ntmps94
  go_wp2_with (first | still_step | (with_reducible first | refine wpStill_nil ?_ | refine Flow.Both.mk ?_ ?_ | exact True.intro) | (with_reducible refine Flow.same_mk rfl rfl rfl ?_; go_simp; done) | (with_reducible exact Flow.same_un rfl rfl rfl) | (refine Flow.region_still mixed ?hB ?_; (case hB => decide +kernel)))
  go_ret
  exact ⟨rfl, rfl⟩

theorem len_nil (w : World) : Calls Try.prog 94 #[.pointer none] w fun e w' => e = .returned (.int .i64 0) ∧ w = w' := by
  go_enter Try.func94, Try.ntmps94
  go_wp2_with (first | still_step | (with_reducible first | refine wpStill_nil ?_ | refine Flow.Both.mk ?_ ?_ | exact True.intro) | (with_reducible refine Flow.same_mk rfl rfl rfl ?_; go_simp; done) | (with_reducible exact Flow.same_un rfl rfl rfl) | (refine Flow.region_still mixed ?hB ?_; (case hB => decide +kernel)))
  go_ret
  exact ⟨rfl, rfl⟩

set_option maxHeartbeats 400000 in
theorem push_no (b : Nat) (R : Nat → Prop) (room : Nat) (l : List (Int × Int)) (x y : Int) (w : World) (hb : BufRep w b R room l) (hl : l.length = room) :
    Calls Try.prog 83 #[.pointer (some ⟨b, 0, none⟩), .agg #[.int .i64 x, .int .i64 y]] w fun e w' => e = .returned (.bool false) ∧ Fr (fun _ => False) w w' := by
  obtain ⟨_, _, _, _, ao, cap, hk, _⟩ := hb
  have c0 := hk.cell 0
  have c1 := hk.cell 1
  have hlt := hk.lt
  have hn : (((l.length : Nat) : Int) == ((room : Nat) : Int)) = true := by simp [hl]
  simp at c0 c1
  clear hk hl
  go_enter Try.func83, Try.ntmps83
  go_wp2_with (first | still_step | (with_reducible first | refine wpStill_nil ?_ | refine Flow.Both.mk ?_ ?_ | exact True.intro) | (with_reducible refine Flow.same_mk rfl rfl rfl ?_; go_simp; done) | (with_reducible exact Flow.same_un rfl rfl rfl) | (with_reducible refine Flow.region_flow (id := 3) [0, 0, 2, 6, 14, 0, 32, 126, 255, 511, 1023] 1216 828 [(0, none), (1, none), (2, none), (3, none), (4, none), (5, none), (6, some [2, 3, 4]), (7, some []), (8, none), (9, none), (10, some [])] mixed ?hB ?_; (case hB => decide +kernel); simp only [Flow.textOf, Flow.q1, Flow.q2, Flow.q3, Flow.q4, Flow.q5, Flow.q6, Flow.q7, Flow.q8, Flow.q9, Flow.wpFl, Flow.SameAll]) | (refine Flow.region_still mixed ?hB ?_; (case hB => decide +kernel)))
  go_ret
  exact ⟨rfl, ((Fr.refl _ w).alloc _).drew⟩

set_option maxHeartbeats 800000 in
theorem push_yes (b : Nat) (R : Nat → Prop) (room : Nat) (l : List (Int × Int)) (x y : Int) (w : World) (hb : BufRep w b R room l) (hl : l.length < room) :
    Calls Try.prog 83 #[.pointer (some ⟨b, 0, none⟩), .agg #[.int .i64 x, .int .i64 y]] w fun e w' => e = .returned (.bool true) ∧
      BufRep w' b (fun k => R k ∨ w.heap.size ≤ k) room (l ++ [(x, y)]) ∧ Fr (fun k => k = b ∨ R k) w w' := by
  obtain ⟨r1, r2, r3, r4, ao, cap, hk, ho⟩ := hb
  have c0 := hk.cell 0
  have c1 := hk.cell 1
  have f1 := hk.free 1
  have hlt := hk.lt
  have hn : (((l.length : Nat) : Int) == ((room : Nat) : Int)) = false := by simp; omega
  obtain ⟨i0, hi, hz0, hz1, hz2⟩ := info_parts infoENT
  simp at c0 c1
  have HK := hid hk
  have HO := hid ho
  have HL := hid (⟨r1, r2, hl⟩ : 1 ≤ room ∧ room ≤ 1000 ∧ l.length < room)
  clear hk ho hl r1 r2 r3
  go_enter Try.func83, Try.ntmps83
  go_wp2_with (first | (at_builtin; refine wpList_append_Own _ rfl (.tmp 23) (.tmp 25) 43 rfl 124 i0 (.agg #[.int .i64 0, .int .i64 0]) 2 16 Try.underlying43 hi hz0 hz1 hz2 rfl (by decide) R (fun _ => True) ao l.length cap (ent l) rfl ?own (some ⟨w.heap.size + 1, 0, none⟩) 1 1 (ent [(x, y)]) rfl ?vw (ent_one _) ?b1 ?b2 ?grow) | still_step | (with_reducible first | refine wpStill_nil ?_ | refine Flow.Both.mk ?_ ?_ | exact True.intro) | (with_reducible refine Flow.same_mk rfl rfl rfl ?_; go_simp; done) | (with_reducible exact Flow.same_un rfl rfl rfl) | (with_reducible refine Flow.region_flow (id := 3) [0, 0, 2, 6, 14, 0, 32, 126, 255, 511, 1023] 1216 828 [(0, none), (1, none), (2, none), (3, none), (4, none), (5, none), (6, some [2, 3, 4]), (7, some []), (8, none), (9, none), (10, some [])] mixed ?hB ?_; (case hB => decide +kernel); simp only [Flow.textOf, Flow.q1, Flow.q2, Flow.q3, Flow.q4, Flow.q5, Flow.q6, Flow.q7, Flow.q8, Flow.q9, Flow.wpFl, Flow.SameAll]) | (refine Flow.region_still mixed ?hB ?_; (case hB => decide +kernel)))
  case own => exact HO.out.fr (S := fun _ => False) ((((Fr.refl _ w).alloc _).alloc _).drew.drew) (fun _ _ h => h)
  case vw => exact Vw.of_blk (C := #[.int .i64 x, .int .i64 y]) (by simpa using (Blk.new (w.alloc (.cells #[.int .i64 x, .int .i64 y] 124)) #[.int .i64 x, .int .i64 y] 124).drew.drew) trivial (by simp)
  case b1 => unfold maxLen; have := HL.out; omega
  case b2 => have := HL.out; omega
  case grow =>
    intro ao' cap' w1 ho1 hf1
    have hk1 : Blk w1 b _ _ := (((HK.out.alloc _).alloc _).drew.drew).fr hf1 r4
    have c0 := hk1.cell 0
    have c1 := hk1.cell 1
    have f1 := hk1.free 1
    simp at c0 c1
    have HK1 := hid hk1
    have HO1 := hid ho1
    have HF1 := hid hf1
    clear hk1 ho1 hf1 hn
    go_wp2_with (first | still_step | (with_reducible first | refine wpStill_nil ?_ | refine Flow.Both.mk ?_ ?_ | exact True.intro) | (with_reducible refine Flow.same_mk rfl rfl rfl ?_; go_simp; done) | (with_reducible exact Flow.same_un rfl rfl rfl) | (with_reducible refine Flow.region_flow (id := 3) [0, 0, 2, 6, 14, 0, 32, 126, 255, 511, 1023] 1216 828 [(0, none), (1, none), (2, none), (3, none), (4, none), (5, none), (6, some [2, 3, 4]), (7, some []), (8, none), (9, none), (10, some [])] mixed ?hB ?_; (case hB => decide +kernel); simp only [Flow.textOf, Flow.q1, Flow.q2, Flow.q3, Flow.q4, Flow.q5, Flow.q6, Flow.q7, Flow.q8, Flow.q9, Flow.wpFl, Flow.SameAll]) | (refine Flow.region_still mixed ?hB ?_; (case hB => decide +kernel)))
    go_ret
    obtain ⟨g1, g2, g3⟩ := HL.out
    refine ⟨rfl, ⟨g1, g2, by simp; omega, fun h => ?_, ao', cap', ?_, ?_⟩, ?_⟩
    · rcases h with h | h
      · exact r4 h
      · omega
    · simpa using HK1.out.set 1 (.slice ao' (l.length + 1) cap')
    · rw [ent_append, List.length_append]
      refine (HO1.out.mono (fun k _ h => h.imp id (fun h => by omega))).fr (S := fun k => k = b) (Fr.setCell (S := fun k => k = b) (Fr.refl _ w1) (fun _ => rfl) _) (fun k h e => ?_)
      subst e
      rcases h with h | h
      · exact r4 h
      · omega
    · have h1 : Fr (fun k => k = b ∨ R k) w _ := ((((Fr.refl _ w).alloc _).alloc _).drew.drew).trans HF1.out (fun k _ h => .inr h)
      exact h1.setCell (fun _ => .inl rfl) _

set_option maxHeartbeats 400000 in
theorem pop_none (b : Nat) (R : Nat → Prop) (room : Nat) (w : World) (hb : BufRep w b R room []) :
    Calls Try.prog 80 #[.pointer (some ⟨b, 0, none⟩)] w fun e w' => e = .returned (.tuple #[.agg #[.int .i64 0, .int .i64 0], .bool false]) ∧ Fr (fun _ => False) w w' := by
  have HB := hid hb
  clear hb
  go_enter Try.func80, Try.ntmps80
  go_wp2_with (first | (go_at_call 94; refine (len_yes b R room [] _ ?hb).mono ?_; (case hb => exact HB.out.fr (S := fun _ => False) (by (with_reducible repeat' (first | exact Fr.refl _ _ | apply Fr.alloc | apply Fr.drew | apply Fr.drewN | refine Fr.setCell ?_ ?_ _))) (fun h => h) (fun _ _ h => h)); rintro e w' ⟨rfl, rfl⟩) | still_step | (with_reducible first | refine wpStill_nil ?_ | refine Flow.Both.mk ?_ ?_ | exact True.intro) | (with_reducible refine Flow.same_mk rfl rfl rfl ?_; go_simp; done) | (with_reducible exact Flow.same_un rfl rfl rfl) | (refine Flow.region_still mixed ?hB ?_; (case hB => decide +kernel)))
  exact bodyPost_ret (v := .tuple #[.agg #[.int .i64 0, .int .i64 0], .bool false]) (by simp [results, Try.results80, go_sem]) rfl ⟨rfl, by (with_reducible repeat' (first | exact Fr.refl _ _ | apply Fr.alloc | apply Fr.drew | apply Fr.drewN | refine Fr.setCell ?_ ?_ _))⟩

set_option maxHeartbeats 400000 in
theorem pop_some (b : Nat) (R : Nat → Prop) (room : Nat) (x y : Int) (l : List (Int × Int)) (w : World) (hb : BufRep w b R room ((x, y) :: l)) :
    Calls Try.prog 80 #[.pointer (some ⟨b, 0, none⟩)] w fun e w' => e = .returned (.tuple #[.agg #[.int .i64 x, .int .i64 y], .bool true]) ∧ BufRep w' b R room l ∧ Fr (fun k => k = b) w w' := by
  have HB := hid hb
  obtain ⟨r1, r2, r3, r4, ao, cap, hk, ho⟩ := hb
  obtain ⟨r, off, rfl, hR, hrl, hc⟩ := ho.head_cell
  have v0 := hc 0 _ rfl
  have v1 := hc 1 _ rfl
  have c1 := hk.cell 1
  have f1 := hk.free 1
  have hlt := hk.lt
  have hcap : 1 ≤ cap := by have := ho.1; simp at this; omega
  have hne : r ≠ b := fun h => by subst h; exact r4 hR
  simp at c1 v0 v1
  have HK := hid hk
  have HO := hid ho
  have HL := hid (⟨r1, r2, r3⟩ : 1 ≤ room ∧ room ≤ 1000 ∧ ((x, y) :: l).length ≤ room)
  clear hk ho hc r1 r2 r3
  by_cases hc1 : cap = 1
  all_goals
    go_enter Try.func80, Try.ntmps80
    go_wp2_with (first | (go_at_call 94; refine (len_yes b R room ((x, y) :: l) _ ?hb).mono ?_; (case hb => exact HB.out.fr (S := fun _ => False) (by (with_reducible repeat' (first | exact Fr.refl _ _ | apply Fr.alloc | apply Fr.drew | apply Fr.drewN | refine Fr.setCell ?_ ?_ _))) (fun h => h) (fun _ _ h => h)); rintro e w' ⟨rfl, rfl⟩) | still_step | (with_reducible first | refine wpStill_nil ?_ | refine Flow.Both.mk ?_ ?_ | exact True.intro) | (with_reducible refine Flow.same_mk rfl rfl rfl ?_; go_simp; done) | (with_reducible exact Flow.same_un rfl rfl rfl) | (refine Flow.region_still mixed ?hB ?_; (case hB => decide +kernel)))
    refine bodyPost_ret (v := .tuple #[.agg #[.int .i64 x, .int .i64 y], .bool true]) (by simp [results, Try.results80, go_sem]) rfl ⟨rfl, ?_, ?_⟩
    · obtain ⟨g1, g2, g3⟩ := HL.out
      refine ⟨g1, g2, by simp at g3; omega, r4, _, _, Blk.alloc (Blk.alloc (HK.out.set 1 _) _) _, ?_⟩
      have h1 := OwnAt.tail (v := [.int .i64 x, .int .i64 y]) (cs := ent l) HO.out rfl
      simp only [hc1, if_true, if_false, Option.map_some] at h1
      exact h1.fr (S := fun k => k = b) (by (with_reducible repeat' (first | exact Fr.refl _ _ | apply Fr.alloc | apply Fr.drew | apply Fr.drewN | refine Fr.setCell ?_ ?_ _)); exact fun _ => rfl) (fun k h e => by subst e; exact r4 h)
    · (with_reducible repeat' (first | exact Fr.refl _ _ | apply Fr.alloc | apply Fr.drew | apply Fr.drewN | refine Fr.setCell ?_ ?_ _)); exact fun _ => rfl

end Go.Proofs.Ytbfeopakmjcapaa

/-
  slices.Clone at stores; All, Cut, of package buffer.
-/
namespace Go.Proofs.Ytbfeopakmjcapaa
open Go.RowKit
attribute [local irreducible] wpStill wpList Calls CallsIn

theorem infoENT2 : (Try.prog.info? 124).map (fun i => (i.zero, i.size, i.bytes)) = some (some (.agg #[.int .i64 0, .int .i64 0]), 2, 16) := by kernel_rfl
set_option maxHeartbeats 400000 in
/-- slices.Clone: a row of its own; nil of nil. -/
theorem clone_ent (R : Nat → Prop) (ao : Option Addr) (n cap : Nat) (cs : List Value) (w : World) (hv : Vw w 2 R ao n cs) (hnil : ao = none → n = 0) (h1 : ∀ u ∈ cs, u.oneCell' = true) (hb : n * 16 ≤ 140737488355328) :
    Calls Try.prog 84 #[.slice ao n cap] w fun e w' => ∃ ao' cap', e = .returned (.slice ao' n cap') ∧ OwnAt w' 124 2 (fun k => w.heap.size ≤ k) ao' n cap' cs ∧ Fr (fun _ => False) w w' ∧ (ao = none → ao' = none) := by
  obtain ⟨i0, hi, hz0, hz1, hz2⟩ := info_parts infoENT2
  have hen := fun (w : World) (a : Option Addr) (n c n' c' : Nat) => Lib.run_eql_slice_nil (P := Try.prog) w 43 124 a n c n' c' Try.underlying43
  cases ao with
  | none =>
    have hn := hnil rfl
    subst hn
    obtain rfl : cs = [] := List.eq_nil_of_length_eq_zero (by simpa using hv.1)
    go_enter Try.func84, Try.ntmps84
    go_wp2
    go_ret
    exact ⟨none, 0, rfl, OwnAt.nil _ _ _ _ _, Fr.refl _ _, by simp⟩
  | some ad =>
    have HV := hid hv
    have H1 := hid h1
    have HB := hid hb
    clear hv h1 hb hnil
    go_enter Try.func84, Try.ntmps84
    go_wp2_with (at_builtin; refine wpList_append_Own _ rfl (.tmp 5) (.tmp 6) 43 rfl 124 i0 (.agg #[.int .i64 0, .int .i64 0]) 2 16 Try.underlying43 hi hz0 hz1 hz2 rfl (by decide) (fun k => w.heap.size ≤ k) R (some ⟨w.heap.size, 0, none⟩) 0 0 [] rfl (OwnAt.nil _ _ _ _ _) (some ad) n cap cs rfl (HV.out.fr (S := fun _ => False) (by (with_reducible repeat' (first | exact Fr.refl _ _ | apply Fr.alloc | apply Fr.drew | apply Fr.drewN | refine Fr.setCell ?_ ?_ _))) (fun _ _ h => h)) H1.out ?b1 ?b2 ?grow)
    case b1 => unfold maxLen; have := HB.out; omega
    case b2 => have := HB.out; omega
    case grow =>
      intro ao' cap' w1 ho1 hf1
      have HO1 := hid ho1
      have HF1 := hid hf1
      clear ho1 hf1
      go_wp2
      go_ret
      refine ⟨ao', cap', rfl, HO1.out.mono (fun k _ h => ?_), ?_, by simp⟩
      · first | omega | (simp at h; omega)
      · have h0 : Fr (fun _ => False) w (w.alloc (.cells #[] 124)) := by (with_reducible repeat' (first | exact Fr.refl _ _ | apply Fr.alloc | apply Fr.drew | apply Fr.drewN | refine Fr.setCell ?_ ?_ _))
        exact h0.trans HF1.out (fun k hk h => by omega)


theorem ent_nil_of (l : List (Int × Int)) : (ent l = []) ↔ l = [] := by
  cases l <;> simp [ent]

set_option maxHeartbeats 400000 in
theorem all_yes (b : Nat) (R : Nat → Prop) (room : Nat) (l : List (Int × Int)) (w : World) (hb : BufRep w b R room l) :
    Calls Try.prog 63 #[.pointer (some ⟨b, 0, none⟩)] w fun e w' => ∃ ao' cap', e = .returned (.slice ao' l.length cap') ∧ OwnAt w' 124 2 (fun k => w.heap.size ≤ k) ao' l.length cap' (ent l) ∧ Fr (fun _ => False) w w' := by
  obtain ⟨r1, r2, r3, r4, ao, cap, hk, ho⟩ := hb
  have c1 := hk.cell 1
  simp at c1
  have HO := hid ho
  have hn : ao = none → l.length = 0 := fun h => by
    rcases ho.2.2.2 with h1 | ⟨r, off, C, e, _⟩
    · have := ho.1; omega
    · rw [h] at e; cases e
  have HN := hid hn
  have HL := hid (⟨r2, r3⟩ : room ≤ 1000 ∧ l.length ≤ room)
  clear hk ho hn r1 r2 r3
  go_enter Try.func63, Try.ntmps63
  go_wp2_with (first | (go_at_call 84; refine (clone_ent R ao l.length cap (ent l) _ HO.out.vw HN.out (ent_one l) (by have := HL.out; omega)).mono ?_; rintro e w' ⟨ao', cap', rfl, ho', hf', _⟩; have HO' := hid ho'; have HF' := hid hf'; clear ho' hf') | still_step | (with_reducible first | refine wpStill_nil ?_ | refine Flow.Both.mk ?_ ?_ | exact True.intro) | (with_reducible refine Flow.same_mk rfl rfl rfl ?_; go_simp; done) | (with_reducible exact Flow.same_un rfl rfl rfl) | (refine Flow.region_still mixed ?hB ?_; (case hB => decide +kernel)))
  go_ret
  exact ⟨_, _, rfl, HO'.out, HF'.out⟩

theorem all_nil (w : World) : Calls Try.prog 63 #[.pointer none] w fun e w' => e = .returned (.slice none 0 0) ∧ w = w' := by
  go_enter Try.func63, Try.ntmps63
  go_wp2
  go_ret
  exact ⟨rfl, rfl⟩

theorem cut_rep {w : World} {b : Nat} {R : Nat → Prop} {room : Nat} {l : List (Int × Int)} {ao : Option Addr} {cap m : Nat} (h1 : 1 ≤ room) (h2 : room ≤ 1000) (h3 : l.length ≤ room) (h4 : ¬ R b)
    (hk : Blk w b #[.int .i64 room, .slice ao l.length cap] 140) (ho : OwnAt w 124 2 R ao l.length cap (ent l)) (hm : m ≤ l.length) :
    BufRep (w.setCell ⟨b, 1, none⟩ (.slice ao m m)) b R room (l.take m) ∧ Fr (fun k => k = b) w (w.setCell ⟨b, 1, none⟩ (.slice ao m m)) := by
  have hf : Fr (fun k => k = b) w (w.setCell ⟨b, 1, none⟩ (.slice ao m m)) := by (with_reducible repeat' (first | exact Fr.refl _ _ | apply Fr.alloc | apply Fr.drew | apply Fr.drewN | refine Fr.setCell ?_ ?_ _)); exact fun _ => rfl
  have hl : (l.take m).length = m := by simp; omega
  refine ⟨⟨h1, h2, by omega, h4, ao, m, ?_, ?_⟩, hf⟩
  · rw [hl]; exact hk.set 1 _
  · have h := (ho.head hm).fr hf (fun k h e => by subst e; exact h4 h)
    rw [ent_take] at h
    rw [hl]
    exact h

set_option maxHeartbeats 400000 in
theorem cut_nat (b : Nat) (R : Nat → Prop) (room : Nat) (l : List (Int × Int)) (m : Nat) (w : World) (hb : BufRep w b R room l) :
    Calls Try.prog 82 #[.pointer (some ⟨b, 0, none⟩), .int .i64 m] w fun e w' => e = .returned (.tuple #[]) ∧ BufRep w' b R room (l.take m) ∧ Fr (fun k => k = b) w w' := by
  have HB := hid hb
  obtain ⟨r1, r2, r3, r4, ao, cap, hk, ho⟩ := hb
  have c1 := hk.cell 1
  have f1 := hk.free 1
  have hlt := hk.lt
  have hcap := ho.1
  simp at c1
  have h0 : ¬ ((m : Int) < 0) := by omega
  have HK := hid hk
  have HO := hid ho
  have HL := hid (⟨r1, r2, r3⟩ : 1 ≤ room ∧ room ≤ 1000 ∧ l.length ≤ room)
  clear hk ho r1 r2 r3
  by_cases hm : m < l.length
  · have hle : m ≤ cap := by omega
    go_enter Try.func82, Try.ntmps82
    go_wp2_with (first | (go_at_call 94; refine (len_yes b R room l _ HB.out).mono ?_; rintro e w' ⟨rfl, rfl⟩) | still_step | (with_reducible first | refine wpStill_nil ?_ | refine Flow.Both.mk ?_ ?_ | exact True.intro) | (with_reducible refine Flow.same_mk rfl rfl rfl ?_; go_simp; done) | (with_reducible exact Flow.same_un rfl rfl rfl) | (refine Flow.region_still mixed ?hB ?_; (case hB => decide +kernel)))
    go_end0
    obtain ⟨g1, g2, g3⟩ := HL.out
    exact ⟨rfl, cut_rep g1 g2 g3 r4 HK.out HO.out (by omega)⟩
  · go_enter Try.func82, Try.ntmps82
    go_wp2_with (first | (go_at_call 94; refine (len_yes b R room l _ HB.out).mono ?_; rintro e w' ⟨rfl, rfl⟩) | still_step | (with_reducible first | refine wpStill_nil ?_ | refine Flow.Both.mk ?_ ?_ | exact True.intro) | (with_reducible refine Flow.same_mk rfl rfl rfl ?_; go_simp; done) | (with_reducible exact Flow.same_un rfl rfl rfl) | (refine Flow.region_still mixed ?hB ?_; (case hB => decide +kernel)))
    go_end0
    refine ⟨rfl, ?_, Fr.refl _ _⟩
    rw [List.take_of_length_le (by omega)]
    exact HB.out

set_option maxHeartbeats 400000 in
theorem cut_neg (b : Nat) (R : Nat → Prop) (room : Nat) (l : List (Int × Int)) (n : Int) (w : World) (hb : BufRep w b R room l) (h0 : n < 0) :
    Calls Try.prog 82 #[.pointer (some ⟨b, 0, none⟩), .int .i64 n] w fun e w' => e = .returned (.tuple #[]) ∧ BufRep w' b R room [] ∧ Fr (fun k => k = b) w w' := by
  have HB := hid hb
  obtain ⟨r1, r2, r3, r4, ao, cap, hk, ho⟩ := hb
  have c1 := hk.cell 1
  have f1 := hk.free 1
  have hlt := hk.lt
  have hcap := ho.1
  simp at c1
  have HK := hid hk
  have HO := hid ho
  have HL := hid (⟨r1, r2, r3⟩ : 1 ≤ room ∧ room ≤ 1000 ∧ l.length ≤ room)
  clear hk ho r1 r2 r3
  by_cases hm : 0 < l.length
  · go_enter Try.func82, Try.ntmps82
    go_wp2_with (first | (go_at_call 94; refine (len_yes b R room l _ HB.out).mono ?_; rintro e w' ⟨rfl, rfl⟩) | still_step | (with_reducible first | refine wpStill_nil ?_ | refine Flow.Both.mk ?_ ?_ | exact True.intro) | (with_reducible refine Flow.same_mk rfl rfl rfl ?_; go_simp; done) | (with_reducible exact Flow.same_un rfl rfl rfl) | (refine Flow.region_still mixed ?hB ?_; (case hB => decide +kernel)))
    go_end0
    obtain ⟨g1, g2, g3⟩ := HL.out
    have h := cut_rep (m := 0) g1 g2 g3 r4 HK.out HO.out (by omega)
    exact ⟨rfl, by simpa using h⟩
  · go_enter Try.func82, Try.ntmps82
    go_wp2_with (first | (go_at_call 94; refine (len_yes b R room l _ HB.out).mono ?_; rintro e w' ⟨rfl, rfl⟩) | still_step | (with_reducible first | refine wpStill_nil ?_ | refine Flow.Both.mk ?_ ?_ | exact True.intro) | (with_reducible refine Flow.same_mk rfl rfl rfl ?_; go_simp; done) | (with_reducible exact Flow.same_un rfl rfl rfl) | (refine Flow.region_still mixed ?hB ?_; (case hB => decide +kernel)))
    go_end0
    have hl : l = [] := List.eq_nil_of_length_eq_zero (by omega)
    subst hl
    exact ⟨rfl, HB.out, Fr.refl _ _⟩

theorem cut_nil (n : Int) (w : World) : Calls Try.prog 82 #[.pointer none, .int .i64 n] w fun e w' => e = .returned (.tuple #[]) ∧ w = w' := by
  by_cases h0 : n < 0
  · go_enter Try.func82, Try.ntmps82
    go_wp2_with (first | (go_at_call 94; refine (len_nil _).mono ?_; rintro e w' ⟨rfl, rfl⟩) | still_step | (with_reducible first | refine wpStill_nil ?_ | refine Flow.Both.mk ?_ ?_ | exact True.intro) | (with_reducible refine Flow.same_mk rfl rfl rfl ?_; go_simp; done) | (with_reducible exact Flow.same_un rfl rfl rfl) | (refine Flow.region_still mixed ?hB ?_; (case hB => decide +kernel)))
    go_end0
    exact ⟨rfl, rfl⟩
  · go_enter Try.func82, Try.ntmps82
    go_wp2_with (first | (go_at_call 94; refine (len_nil _).mono ?_; rintro e w' ⟨rfl, rfl⟩) | still_step | (with_reducible first | refine wpStill_nil ?_ | refine Flow.Both.mk ?_ ?_ | exact True.intro) | (with_reducible refine Flow.same_mk rfl rfl rfl ?_; go_simp; done) | (with_reducible exact Flow.same_un rfl rfl rfl) | (refine Flow.region_still mixed ?hB ?_; (case hB => decide +kernel)))
    go_end0
    exact ⟨rfl, rfl⟩

set_option maxHeartbeats 400000 in
theorem push_nil (x y : Int) (w : World) : Calls Try.prog 83 #[.pointer none, .agg #[.int .i64 x, .int .i64 y]] w fun e w' => e = .returned (.bool false) ∧ Fr (fun _ => False) w w' := by
  go_enter Try.func83, Try.ntmps83
  go_wp2_with (first | still_step | (with_reducible first | refine wpStill_nil ?_ | refine Flow.Both.mk ?_ ?_ | exact True.intro) | (with_reducible refine Flow.same_mk rfl rfl rfl ?_; go_simp; done) | (with_reducible exact Flow.same_un rfl rfl rfl) | (with_reducible refine Flow.region_flow (id := 3) [0, 0, 2, 6, 14, 0, 32, 126, 255, 511, 1023] 1216 828 [(0, none), (1, none), (2, none), (3, none), (4, none), (5, none), (6, some [2, 3, 4]), (7, some []), (8, none), (9, none), (10, some [])] mixed ?hB ?_; (case hB => decide +kernel); simp only [Flow.textOf, Flow.q1, Flow.q2, Flow.q3, Flow.q4, Flow.q5, Flow.q6, Flow.q7, Flow.q8, Flow.q9, Flow.wpFl, Flow.SameAll]) | (refine Flow.region_still mixed ?hB ?_; (case hB => decide +kernel)))
  go_ret
  exact ⟨rfl, by (with_reducible repeat' (first | exact Fr.refl _ _ | apply Fr.alloc | apply Fr.drew | apply Fr.drewN | refine Fr.setCell ?_ ?_ _))⟩

end Go.Proofs.Ytbfeopakmjcapaa

/-
  Clones of whole numbers; memory behind stores that wait, in plain Lean; cells of waiting stores.
-/
namespace Go.Proofs.Ytbfeopakmjcapaa
open Go.RowKit
attribute [local irreducible] wpStill wpList Calls CallsIn

theorem infoI64 : (Try.prog.info? 2).map (fun i => (i.zero, i.size, i.bytes)) = some (some (.int .i64 0), 1, 8) := by kernel_rfl
set_option maxHeartbeats 400000 in
/-- slices.Clone: a row of its own; nil of nil. -/
theorem clone_int (R : Nat → Prop) (ao : Option Addr) (n cap : Nat) (cs : List Value) (w : World) (hv : Vw w 1 R ao n cs) (hnil : ao = none → n = 0) (h1 : ∀ u ∈ cs, u.oneCell' = true) (hb : n * 8 ≤ 140737488355328) :
    Calls Try.prog 65 #[.slice ao n cap] w fun e w' => ∃ ao' cap', e = .returned (.slice ao' n cap') ∧ OwnAt w' 2 1 (fun k => w.heap.size ≤ k) ao' n cap' cs ∧ Fr (fun _ => False) w w' ∧ (ao = none → ao' = none) := by
  obtain ⟨i0, hi, hz0, hz1, hz2⟩ := info_parts infoI64
  have hen := fun (w : World) (a : Option Addr) (n c n' c' : Nat) => Lib.run_eql_slice_nil (P := Try.prog) w 26 2 a n c n' c' Try.underlying26
  cases ao with
  | none =>
    have hn := hnil rfl
    subst hn
    obtain rfl : cs = [] := List.eq_nil_of_length_eq_zero (by simpa using hv.1)
    go_enter Try.func65, Try.ntmps65
    go_wp2
    go_ret
    exact ⟨none, 0, rfl, OwnAt.nil _ _ _ _ _, Fr.refl _ _, by simp⟩
  | some ad =>
    have HV := hid hv
    have H1 := hid h1
    have HB := hid hb
    clear hv h1 hb hnil
    go_enter Try.func65, Try.ntmps65
    go_wp2_with (at_builtin; refine wpList_append_Own _ rfl (.tmp 5) (.tmp 6) 26 rfl 2 i0 (.int .i64 0) 1 8 Try.underlying26 hi hz0 hz1 hz2 rfl (by decide) (fun k => w.heap.size ≤ k) R (some ⟨w.heap.size, 0, none⟩) 0 0 [] rfl (OwnAt.nil _ _ _ _ _) (some ad) n cap cs rfl (HV.out.fr (S := fun _ => False) (by (with_reducible repeat' (first | exact Fr.refl _ _ | apply Fr.alloc | apply Fr.drew | apply Fr.drewN | refine Fr.setCell ?_ ?_ _))) (fun _ _ h => h)) H1.out ?b1 ?b2 ?grow)
    case b1 => unfold maxLen; have := HB.out; omega
    case b2 => have := HB.out; omega
    case grow =>
      intro ao' cap' w1 ho1 hf1
      have HO1 := hid ho1
      have HF1 := hid hf1
      clear ho1 hf1
      go_wp2
      go_ret
      refine ⟨ao', cap', rfl, HO1.out.mono (fun k _ h => ?_), ?_, by simp⟩
      · first | omega | (simp at h; omega)
      · have h0 : Fr (fun _ => False) w (w.alloc (.cells #[] 2)) := by (with_reducible repeat' (first | exact Fr.refl _ _ | apply Fr.alloc | apply Fr.drew | apply Fr.drewN | refine Fr.setCell ?_ ?_ _))
        exact h0.trans HF1.out (fun k hk h => by omega)


/-- Memory with a word that has something; others are nothing. -/
def putL (mem : List Int) (e : Int × Int) : List Int := if 0 ≤ e.1 ∧ e.1 < mem.length then mem.set e.1.toNat e.2 else mem
def ontoL (mem : List Int) (l : List (Int × Int)) : List Int := l.foldl putL mem
theorem putL_length (mem : List Int) (e : Int × Int) : (putL mem e).length = mem.length := by unfold putL; split <;> simp
theorem ontoL_length (l : List (Int × Int)) : ∀ mem : List Int, (ontoL mem l).length = mem.length := by
  induction l with
  | nil => intro mem; rfl
  | cons e l ih => intro mem; exact (ih _).trans (putL_length _ _)
theorem ontoL_snoc (mem : List Int) (l : List (Int × Int)) (e : Int × Int) : ontoL mem (l ++ [e]) = putL (ontoL mem l) e := by simp [ontoL]
theorem ent_get (l : List (Int × Int)) : ∀ (k : Nat) (h : k < l.length), (ent l)[k * 2]? = some (.int .i64 l[k].1) ∧ (ent l)[k * 2 + 1]? = some (.int .i64 l[k].2) := by
  induction l with
  | nil => intro k h; simp at h
  | cons e l ih =>
    intro k h
    cases k with
    | zero => simp [ent]
    | succ k =>
      have := ih k (by simpa using h)
      rw [Nat.add_mul]
      simpa [ent] using this

end Go.Proofs.Ytbfeopakmjcapaa
