/-
  What the functions of package buffer do: New, Push, Pop, Len, Cut, All, Get, Onto; the room is from 1 to 1000.
-/
import Derived.Test.YtfekjgkhagcjgaaBase
namespace Go.Proofs.Ytfekjgkhagcjgaa
open Go.RowKit
attribute [local irreducible] wpStill wpList Calls CallsIn

theorem infoENT : (Try.prog.info? 74).map (fun i => (i.zero, i.size, i.bytes)) = some (some (.agg #[.int .i64 0, .int .i64 0]), 2, 16) := by kernel_rfl

/-- Stores that wait, as cells. -/
def ent : List (Int × Int) → List Value
  | [] => []
  | e :: r => .int .i64 e.1 :: .int .i64 e.2 :: ent r

theorem ent_length (l : List (Int × Int)) : (ent l).length = l.length * 2 := by
  induction l with
  | nil => rfl
  | cons e r ih => simp [ent, ih, Nat.add_mul]
theorem ent_append (l r : List (Int × Int)) : ent (l ++ r) = ent l ++ ent r := by
  induction l with
  | nil => rfl
  | cons e l ih => simp [ent, ih]
theorem ent_take (l : List (Int × Int)) : ∀ n, (ent l).take (n * 2) = ent (l.take n) := by
  induction l with
  | nil => intro n; simp [ent]
  | cons e l ih =>
    intro n
    cases n with
    | zero => simp [ent]
    | succ n => rw [Nat.add_mul]; simp [ent, ih]
theorem ent_one (l : List (Int × Int)) : ∀ u ∈ ent l, u.oneCell' = true := by
  induction l with
  | nil => intro u h; cases h
  | cons e l ih =>
    intro u h
    simp only [ent, List.mem_cons] at h
    rcases h with rfl | rfl | h
    · rfl
    · rfl
    · exact ih u h

/-- A buffer at a block: its room, and the stores that wait, the oldest one first. -/
def BufRep (w : World) (b : Nat) (R : Nat → Prop) (room : Nat) (l : List (Int × Int)) : Prop :=
  1 ≤ room ∧ room ≤ 1000 ∧ l.length ≤ room ∧ ¬ R b ∧ ∃ ao cap, Blk w b #[.int .i64 room, .slice ao l.length cap] 126 ∧ OwnAt w 74 2 R ao l.length cap (ent l)

namespace BufRep
variable {w w1 : World} {b : Nat} {R S : Nat → Prop} {room : Nat} {l : List (Int × Int)}
theorem fr (h : BufRep w b R room l) (hf : Fr S w w1) (hb : ¬ S b) (hR : ∀ k, R k → ¬ S k) : BufRep w1 b R room l := by
  obtain ⟨h1, h2, h3, h4, ao, cap, hk, ho⟩ := h
  exact ⟨h1, h2, h3, h4, ao, cap, hk.fr hf hb, ho.fr hf hR⟩
theorem mono {R2 : Nat → Prop} (h : BufRep w b R room l) (hr : ∀ k, k < w.heap.size → R k → R2 k) (hb : ¬ R2 b) : BufRep w b R2 room l := by
  obtain ⟨h1, h2, h3, h4, ao, cap, hk, ho⟩ := h
  exact ⟨h1, h2, h3, hb, ao, cap, hk, ho.mono hr⟩
theorem lt (h : BufRep w b R room l) : b < w.heap.size := by
  obtain ⟨h1, h2, h3, h4, ao, cap, hk, ho⟩ := h
  exact hk.lt
end BufRep

set_option maxHeartbeats 400000 in
theorem new_yes (room : Nat) (w : World) (h0 : 1 ≤ room) (h1 : room ≤ 1000) :
    Calls Try.prog 29 #[.int .i64 room] w fun e w' => e = .returned (.pointer (some ⟨w.heap.size, 0, none⟩)) ∧ BufRep w' w.heap.size (fun _ => False) room [] ∧ Fr (fun _ => False) w w' := by
  have e1 : ¬ ((room : Int) < 1) := by omega
  have e2 : ¬ (1000 < (room : Int)) := by omega
  go_enter Try.func29, Try.ntmps29
  go_wp2_with (first | still_step | (with_reducible refine wpStill_nil ?_) | (with_reducible refine Flow.Both.mk ?_ ?_) | (with_reducible exact True.intro) | (with_reducible refine Flow.same_mk rfl rfl rfl ?_; go_simp; done) | (with_reducible exact Flow.same_un rfl rfl rfl) | (refine Flow.region_still mixed ?hB ?_; (case hB => decide +kernel)))
  go_ret
  refine ⟨rfl, ⟨h0, h1, by simp, fun h => h, none, 0, ?_, OwnAt.nil _ _ _ _ _⟩, ?_⟩
  · exact Blk.new w _ _
  · exact (Fr.refl _ w).alloc _

set_option maxHeartbeats 400000 in
theorem new_no (room : Int) (w : World) (h : room < 1 ∨ 1000 < room) :
    Calls Try.prog 29 #[.int .i64 room] w fun e w' => e = .returned (.pointer none) ∧ Fr (fun _ => False) w w' := by
  rcases h with h | h
  · go_enter Try.func29, Try.ntmps29
    go_wp2_with (first | still_step | (with_reducible refine wpStill_nil ?_) | (with_reducible refine Flow.Both.mk ?_ ?_) | (with_reducible exact True.intro) | (with_reducible refine Flow.same_mk rfl rfl rfl ?_; go_simp; done) | (with_reducible exact Flow.same_un rfl rfl rfl) | (refine Flow.region_still mixed ?hB ?_; (case hB => decide +kernel)))
    go_ret
    exact ⟨rfl, Fr.refl _ w⟩
  · have h' : ¬ (room < 1) := by omega
    go_enter Try.func29, Try.ntmps29
    go_wp2_with (first | still_step | (with_reducible refine wpStill_nil ?_) | (with_reducible refine Flow.Both.mk ?_ ?_) | (with_reducible exact True.intro) | (with_reducible refine Flow.same_mk rfl rfl rfl ?_; go_simp; done) | (with_reducible exact Flow.same_un rfl rfl rfl) | (refine Flow.region_still mixed ?hB ?_; (case hB => decide +kernel)))
    go_ret
    exact ⟨rfl, Fr.refl _ w⟩

set_option maxHeartbeats 400000 in
theorem len_yes (b : Nat) (R : Nat → Prop) (room : Nat) (l : List (Int × Int)) (w : World) (hb : BufRep w b R room l) :
    Calls Try.prog 61 #[.pointer (some ⟨b, 0, none⟩)] w fun e w' => e = .returned (.int .i64 l.length) ∧ w = w' := by
  obtain ⟨_, _, _, _, ao, cap, hk, _⟩ := hb
  have c1 := hk.cell 1
  simp at c1
  clear hk
  go_enter Try.func61, Try.ntmps61
  go_wp2_with (first | still_step | (with_reducible refine wpStill_nil ?_) | (with_reducible refine Flow.Both.mk ?_ ?_) | (with_reducible exact True.intro) | (with_reducible refine Flow.same_mk rfl rfl rfl ?_; go_simp; done) | (with_reducible exact Flow.same_un rfl rfl rfl) | (refine Flow.region_still mixed ?hB ?_; (case hB => decide +kernel)))
  go_ret
  exact ⟨rfl, rfl⟩

theorem len_nil (w : World) : Calls Try.prog 61 #[.pointer none] w fun e w' => e = .returned (.int .i64 0) ∧ w = w' := by
  go_enter Try.func61, Try.ntmps61
  go_wp2_with (first | still_step | (with_reducible refine wpStill_nil ?_) | (with_reducible refine Flow.Both.mk ?_ ?_) | (with_reducible exact True.intro) | (with_reducible refine Flow.same_mk rfl rfl rfl ?_; go_simp; done) | (with_reducible exact Flow.same_un rfl rfl rfl) | (refine Flow.region_still mixed ?hB ?_; (case hB => decide +kernel)))
  go_ret
  exact ⟨rfl, rfl⟩

set_option maxHeartbeats 400000 in
theorem push_no (b : Nat) (R : Nat → Prop) (room : Nat) (l : List (Int × Int)) (x y : Int) (w : World) (hb : BufRep w b R room l) (hl : l.length = room) :
    Calls Try.prog 57 #[.pointer (some ⟨b, 0, none⟩), .agg #[.int .i64 x, .int .i64 y]] w fun e w' => e = .returned (.bool false) ∧ Fr (fun _ => False) w w' := by
  obtain ⟨_, _, _, _, ao, cap, hk, _⟩ := hb
  have c0 := hk.cell 0
  have c1 := hk.cell 1
  have hlt := hk.lt
  have hn : (((l.length : Nat) : Int) == ((room : Nat) : Int)) = true := by simp [hl]
  simp at c0 c1
  clear hk hl
  go_enter Try.func57, Try.ntmps57
  go_wp2_with (first | still_step | (with_reducible refine wpStill_nil ?_) | (with_reducible refine Flow.Both.mk ?_ ?_) | (with_reducible exact True.intro) | (with_reducible refine Flow.same_mk rfl rfl rfl ?_; go_simp; done) | (with_reducible exact Flow.same_un rfl rfl rfl) | (with_reducible refine Flow.region_flow (id := 3) [0, 0, 2, 6, 14, 0, 32, 126, 255, 511, 1023] 1216 828 [(0, none), (1, none), (2, none), (3, none), (4, none), (5, none), (6, some [2, 3, 4]), (7, some []), (8, none), (9, none), (10, some [])] mixed ?hB ?_; (case hB => decide +kernel); simp only [Flow.textOf, List.map_cons, List.map_nil, Option.map_none, Option.map_some, Array.getD_eq_getD_getElem?, List.getElem?_toArray, List.getElem?_cons_zero, List.getElem?_cons_succ, Option.getD_some, Flow.wpFl, Flow.SameAll]) | (refine Flow.region_still mixed ?hB ?_; (case hB => decide +kernel)))
  go_ret
  exact ⟨rfl, ((Fr.refl _ w).alloc _).drew⟩

set_option maxHeartbeats 800000 in
theorem push_yes (b : Nat) (R : Nat → Prop) (room : Nat) (l : List (Int × Int)) (x y : Int) (w : World) (hb : BufRep w b R room l) (hl : l.length < room) :
    Calls Try.prog 57 #[.pointer (some ⟨b, 0, none⟩), .agg #[.int .i64 x, .int .i64 y]] w fun e w' => e = .returned (.bool true) ∧
      BufRep w' b (fun k => R k ∨ w.heap.size ≤ k) room (l ++ [(x, y)]) ∧ Fr (fun k => k = b ∨ R k) w w' := by
  obtain ⟨r1, r2, r3, r4, ao, cap, hk, ho⟩ := hb
  have c0 := hk.cell 0
  have c1 := hk.cell 1
  have f1 := hk.free 1
  have hlt := hk.lt
  have hn : (((l.length : Nat) : Int) == ((room : Nat) : Int)) = false := by simp; omega
  obtain ⟨i0, hi, hz0, hz1, hz2⟩ := info_parts infoENT
  simp at c0 c1
  have HK := hid hk
  have HO := hid ho
  have HL := hid (⟨r1, r2, hl⟩ : 1 ≤ room ∧ room ≤ 1000 ∧ l.length < room)
  clear hk ho hl r1 r2 r3
  go_enter Try.func57, Try.ntmps57
  go_wp2_with (first | (at_builtin; refine wpList_append_Own _ rfl (.tmp 23) (.tmp 25) 69 rfl 74 i0 (.agg #[.int .i64 0, .int .i64 0]) 2 16 Try.underlying69 hi hz0 hz1 hz2 rfl (by decide) R (fun _ => True) ao l.length cap (ent l) rfl ?own (some ⟨w.heap.size + 1, 0, none⟩) 1 1 (ent [(x, y)]) rfl ?vw (ent_one _) ?b1 ?b2 ?grow) | still_step | (with_reducible refine wpStill_nil ?_) | (with_reducible refine Flow.Both.mk ?_ ?_) | (with_reducible exact True.intro) | (with_reducible refine Flow.same_mk rfl rfl rfl ?_; go_simp; done) | (with_reducible exact Flow.same_un rfl rfl rfl) | (with_reducible refine Flow.region_flow (id := 3) [0, 0, 2, 6, 14, 0, 32, 126, 255, 511, 1023] 1216 828 [(0, none), (1, none), (2, none), (3, none), (4, none), (5, none), (6, some [2, 3, 4]), (7, some []), (8, none), (9, none), (10, some [])] mixed ?hB ?_; (case hB => decide +kernel); simp only [Flow.textOf, List.map_cons, List.map_nil, Option.map_none, Option.map_some, Array.getD_eq_getD_getElem?, List.getElem?_toArray, List.getElem?_cons_zero, List.getElem?_cons_succ, Option.getD_some, Flow.wpFl, Flow.SameAll]) | (refine Flow.region_still mixed ?hB ?_; (case hB => decide +kernel)))
  case own => exact HO.out.fr (S := fun _ => False) ((((Fr.refl _ w).alloc _).alloc _).drew.drew) (fun _ _ h => h)
  case vw => exact Vw.of_blk (C := #[.int .i64 x, .int .i64 y]) (by simpa using (Blk.new (w.alloc (.cells #[.int .i64 x, .int .i64 y] 74)) #[.int .i64 x, .int .i64 y] 74).drew.drew) trivial (by simp)
  case b1 => unfold maxLen; have := HL.out; omega
  case b2 => have := HL.out; omega
  case grow =>
    intro ao' cap' w1 ho1 hf1
    have hk1 : Blk w1 b _ _ := (((HK.out.alloc _).alloc _).drew.drew).fr hf1 r4
    have c0 := hk1.cell 0
    have c1 := hk1.cell 1
    have f1 := hk1.free 1
    simp at c0 c1
    have HK1 := hid hk1
    have HO1 := hid ho1
    have HF1 := hid hf1
    clear hk1 ho1 hf1 hn
    go_wp2_with (first | still_step | (with_reducible refine wpStill_nil ?_) | (with_reducible refine Flow.Both.mk ?_ ?_) | (with_reducible exact True.intro) | (with_reducible refine Flow.same_mk rfl rfl rfl ?_; go_simp; done) | (with_reducible exact Flow.same_un rfl rfl rfl) | (with_reducible refine Flow.region_flow (id := 3) [0, 0, 2, 6, 14, 0, 32, 126, 255, 511, 1023] 1216 828 [(0, none), (1, none), (2, none), (3, none), (4, none), (5, none), (6, some [2, 3, 4]), (7, some []), (8, none), (9, none), (10, some [])] mixed ?hB ?_; (case hB => decide +kernel); simp only [Flow.textOf, List.map_cons, List.map_nil, Option.map_none, Option.map_some, Array.getD_eq_getD_getElem?, List.getElem?_toArray, List.getElem?_cons_zero, List.getElem?_cons_succ, Option.getD_some, Flow.wpFl, Flow.SameAll]) | (refine Flow.region_still mixed ?hB ?_; (case hB => decide +kernel)))
    go_ret
    obtain ⟨g1, g2, g3⟩ := HL.out
    refine ⟨rfl, ⟨g1, g2, by simp; omega, fun h => ?_, ao', cap', ?_, ?_⟩, ?_⟩
    · rcases h with h | h
      · exact r4 h
      · omega
    · simpa using HK1.out.set 1 (.slice ao' (l.length + 1) cap')
    · rw [ent_append, List.length_append]
      refine (HO1.out.mono (fun k _ h => h.imp id (fun h => by omega))).fr (S := fun k => k = b) (Fr.setCell (S := fun k => k = b) (Fr.refl _ w1) (fun _ => rfl) _) (fun k h e => ?_)
      subst e
      rcases h with h | h
      · exact r4 h
      · omega
    · have h1 : Fr (fun k => k = b ∨ R k) w _ := ((((Fr.refl _ w).alloc _).alloc _).drew.drew).trans HF1.out (fun k _ h => .inr h)
      exact h1.setCell (fun _ => .inl rfl) _

set_option maxHeartbeats 400000 in
theorem pop_none (b : Nat) (R : Nat → Prop) (room : Nat) (w : World) (hb : BufRep w b R room []) :
    Calls Try.prog 32 #[.pointer (some ⟨b, 0, none⟩)] w fun e w' => e = .returned (.tuple #[.agg #[.int .i64 0, .int .i64 0], .bool false]) ∧ Fr (fun _ => False) w w' := by
  have HB := hid hb
  clear hb
  go_enter Try.func32, Try.ntmps32
  go_wp2_with (first | (go_at_call 61; refine (len_yes b R room [] _ ?hb).mono ?_; (case hb => exact HB.out.fr (S := fun _ => False) (by (repeat' (first | with_reducible exact Fr.refl _ _ | with_reducible apply Fr.alloc | with_reducible apply Fr.drew | with_reducible apply Fr.drewN | (with_reducible refine Fr.setCell ?_ ?_ _)))) (fun h => h) (fun _ _ h => h)); rintro e w' ⟨rfl, rfl⟩) | still_step | (with_reducible refine wpStill_nil ?_) | (with_reducible refine Flow.Both.mk ?_ ?_) | (with_reducible exact True.intro) | (with_reducible refine Flow.same_mk rfl rfl rfl ?_; go_simp; done) | (with_reducible exact Flow.same_un rfl rfl rfl) | (refine Flow.region_still mixed ?hB ?_; (case hB => decide +kernel)))
  exact bodyPost_ret (v := .tuple #[.agg #[.int .i64 0, .int .i64 0], .bool false]) (by simp [results, Try.results32, go_sem]) rfl ⟨rfl, by (repeat' (first | with_reducible exact Fr.refl _ _ | with_reducible apply Fr.alloc | with_reducible apply Fr.drew | with_reducible apply Fr.drewN | (with_reducible refine Fr.setCell ?_ ?_ _)))⟩

set_option maxHeartbeats 400000 in
theorem pop_some (b : Nat) (R : Nat → Prop) (room : Nat) (x y : Int) (l : List (Int × Int)) (w : World) (hb : BufRep w b R room ((x, y) :: l)) :
    Calls Try.prog 32 #[.pointer (some ⟨b, 0, none⟩)] w fun e w' => e = .returned (.tuple #[.agg #[.int .i64 x, .int .i64 y], .bool true]) ∧ BufRep w' b R room l ∧ Fr (fun k => k = b) w w' := by
  have HB := hid hb
  obtain ⟨r1, r2, r3, r4, ao, cap, hk, ho⟩ := hb
  obtain ⟨r, off, rfl, hR, hrl, hc⟩ := ho.head_cell
  have v0 := hc 0 _ rfl
  have v1 := hc 1 _ rfl
  have c1 := hk.cell 1
  have f1 := hk.free 1
  have hlt := hk.lt
  have hcap : 1 ≤ cap := by have := ho.1; simp at this; omega
  have hne : r ≠ b := fun h => by subst h; exact r4 hR
  simp at c1 v0 v1
  have HK := hid hk
  have HO := hid ho
  have HL := hid (⟨r1, r2, r3⟩ : 1 ≤ room ∧ room ≤ 1000 ∧ ((x, y) :: l).length ≤ room)
  clear hk ho hc r1 r2 r3
  by_cases hc1 : cap = 1
  all_goals
    go_enter Try.func32, Try.ntmps32
    go_wp2_with (first | (go_at_call 61; refine (len_yes b R room ((x, y) :: l) _ ?hb).mono ?_; (case hb => exact HB.out.fr (S := fun _ => False) (by (repeat' (first | with_reducible exact Fr.refl _ _ | with_reducible apply Fr.alloc | with_reducible apply Fr.drew | with_reducible apply Fr.drewN | (with_reducible refine Fr.setCell ?_ ?_ _)))) (fun h => h) (fun _ _ h => h)); rintro e w' ⟨rfl, rfl⟩) | still_step | (with_reducible refine wpStill_nil ?_) | (with_reducible refine Flow.Both.mk ?_ ?_) | (with_reducible exact True.intro) | (with_reducible refine Flow.same_mk rfl rfl rfl ?_; go_simp; done) | (with_reducible exact Flow.same_un rfl rfl rfl) | (refine Flow.region_still mixed ?hB ?_; (case hB => decide +kernel)))
    refine bodyPost_ret (v := .tuple #[.agg #[.int .i64 x, .int .i64 y], .bool true]) (by simp [results, Try.results32, go_sem]) rfl ⟨rfl, ?_, ?_⟩
    · obtain ⟨g1, g2, g3⟩ := HL.out
      refine ⟨g1, g2, by simp at g3; omega, r4, _, _, Blk.alloc (Blk.alloc (HK.out.set 1 _) _) _, ?_⟩
      have h1 := OwnAt.tail (v := [.int .i64 x, .int .i64 y]) (cs := ent l) HO.out rfl
      simp only [hc1, if_true, if_false, Option.map_some] at h1
      exact h1.fr (S := fun k => k = b) (by (repeat' (first | with_reducible exact Fr.refl _ _ | with_reducible apply Fr.alloc | with_reducible apply Fr.drew | with_reducible apply Fr.drewN | (with_reducible refine Fr.setCell ?_ ?_ _))); exact fun _ => rfl) (fun k h e => by subst e; exact r4 h)
    · (repeat' (first | with_reducible exact Fr.refl _ _ | with_reducible apply Fr.alloc | with_reducible apply Fr.drew | with_reducible apply Fr.drewN | (with_reducible refine Fr.setCell ?_ ?_ _))); exact fun _ => rfl

end Go.Proofs.Ytfekjgkhagcjgaa
