/-
  A buffer and the reference's list of stores, side by side, in memory of their own.
-/
import Derived.Test.YtkpbojddahddnaaRef27
namespace Go.Proofs.Ytkpbojddahddnaa
open Go.RowKit
attribute [local irreducible] wpStill wpList Calls CallsIn

/-- At block B a buffer with the stores L1; the slice (a, c) holds L2; no block is both's. -/
def Two (X : Nat) (w : World) (B n : Nat) (L1 L2 : List (Int × Int)) (a : Option Addr) (c : Nat) : Prop :=
  ∃ R Rr : Nat → Prop, BufRep w B R n L1 ∧ OwnAt w 33 2 Rr a L2.length c (ent L2) ∧ (∀ k, R k → B < k ∧ k < w.heap.size ∧ ¬ Rr k ∧ k ≠ X) ∧ (∀ k, Rr k → B < k ∧ k < w.heap.size ∧ k ≠ X) ∧ X < w.heap.size

variable {w w1 : World} {X B n : Nat} {L1 L2 : List (Int × Int)} {a : Option Addr} {c : Nat}

theorem Two.fr (h : Two X w B n L1 L2 a c) (hf : Fr (fun _ => False) w w1) : Two X w1 B n L1 L2 a c := by
  obtain ⟨R, Rr, h1, h2, h3, h4, h5⟩ := h
  have := hf.size
  exact ⟨R, Rr, h1.fr hf (fun h => h) (fun _ _ h => h), h2.fr hf (fun _ _ h => h), fun k hk => by have := h3 k hk; exact ⟨this.1, by omega, this.2.2⟩, fun k hk => by have := h4 k hk; exact ⟨this.1, by omega, this.2.2⟩, by omega⟩

theorem Two.lt (h : Two X w B n L1 L2 a c) : B < w.heap.size := by
  obtain ⟨R, Rr, h1, _⟩ := h
  exact h1.lt

theorem Two.len (h : Two X w B n L1 L2 a c) : L1.length ≤ n ∧ n ≤ 1000 := by
  obtain ⟨R, Rr, h1, _⟩ := h
  exact ⟨h1.2.2.1, h1.2.1⟩

theorem Two.cap (h : Two X w B n L1 L2 a c) : L2.length ≤ c := by
  obtain ⟨R, Rr, h1, h2, _⟩ := h
  exact h2.1

theorem Two.vw (h : Two X w B n L1 L2 a c) : ∃ Rr : Nat → Prop, Vw w 2 Rr a L2.length (ent L2) ∧ ∀ k, Rr k → k < w.heap.size := by
  obtain ⟨R, Rr, h1, h2, h3, h4, h5⟩ := h
  exact ⟨Rr, h2.vw, fun k hk => (h4 k hk).2.1⟩

theorem two_push (x y : Int) (h : Two X w B n L1 L2 a c) :
    Calls Try.prog 8 #[.pointer (some ⟨B, 0, none⟩), .agg #[.int .i64 x, .int .i64 y]] w fun e w' => e = .returned (.bool (decide (L1.length < n))) ∧ Two X w' B n (pushL n L1 (x, y)) L2 a c ∧ Fr (fun k => B ≤ k ∧ (k ≠ X ∨ k = B)) w w' := by
  obtain ⟨R, Rr, h1, h2, h3, h4, h5⟩ := h
  refine (push_all B R n L1 x y w h1).mono ?_
  rintro e w' ⟨rfl, hb, hf⟩
  have hs := hf.size
  have hl := h1.lt
  refine ⟨rfl, ⟨fun k => R k ∨ w.heap.size ≤ k ∧ k < w'.heap.size, Rr, hb.mono (fun k hk h => h.imp id (fun h => ⟨h, hk⟩)) (fun h => ?_), h2.fr hf (fun k hk h => ?_), fun k hk => ?_, fun k hk => ?_, by omega⟩, hf.mono (fun k _ h => ?_)⟩
  · rcases h with h | h
    · have := (h3 B h).1; omega
    · omega
  · rcases h with h | h
    · subst h; have := (h4 k hk).1; omega
    · exact (h3 k h).2.2.1 hk
  · rcases hk with hk | hk
    · have := h3 k hk; exact ⟨this.1, by omega, this.2.2⟩
    · exact ⟨by omega, hk.2, fun h => by have := (h4 k h).2; omega, by omega⟩
  · have := h4 k hk; exact ⟨this.1, by omega, this.2.2⟩
  · rcases h with h | h
    · subst h; exact ⟨Nat.le_refl _, .inr rfl⟩
    · have := h3 k h; omega

theorem two_b {L3 : List (Int × Int)} (h : Two X w B n L1 L2 a c) (hf : Fr (fun k => k = B) w w1) (hb : ∀ R, BufRep w B R n L1 → BufRep w1 B R n L3) : Two X w1 B n L3 L2 a c := by
  obtain ⟨R, Rr, h1, h2, h3, h4, h5⟩ := h
  have := hf.size
  exact ⟨R, Rr, hb R h1, h2.fr hf (fun k hk h => by subst h; have := (h4 k hk).1; omega), fun k hk => by have := h3 k hk; exact ⟨this.1, by omega, this.2.2⟩, fun k hk => by have := h4 k hk; exact ⟨this.1, by omega, this.2.2⟩, by omega⟩

theorem two_pop (h : Two X w B n L1 L2 a c) :
    Calls Try.prog 9 #[.pointer (some ⟨B, 0, none⟩)] w fun e w' => e = .returned (.tuple #[.agg #[.int .i64 (headL L1).1, .int .i64 (headL L1).2], .bool (decide (0 < L1.length))]) ∧ Two X w' B n L1.tail L2 a c ∧ Fr (fun k => B ≤ k ∧ (k ≠ X ∨ k = B)) w w' := by
  obtain ⟨R, Rr, h1, h2, h3, h4, h5⟩ := h
  refine (pop_all B R n L1 w h1).mono ?_
  rintro e w' ⟨rfl, hb, hf⟩
  have := hf.size
  exact ⟨rfl, ⟨R, Rr, hb, h2.fr hf (fun k hk h => by subst h; have := (h4 k hk).1; omega), fun k hk => by have := h3 k hk; exact ⟨this.1, by omega, this.2.2⟩, fun k hk => by have := h4 k hk; exact ⟨this.1, by omega, this.2.2⟩, by omega⟩, hf.mono (fun k _ h => by omega)⟩

theorem two_cut (m : Int) (h : Two X w B n L1 L2 a c) :
    Calls Try.prog 10 #[.pointer (some ⟨B, 0, none⟩), .int .i64 m] w fun e w' => e = .returned (.tuple #[]) ∧ Two X w' B n (L1.take m.toNat) L2 a c ∧ Fr (fun k => B ≤ k ∧ (k ≠ X ∨ k = B)) w w' := by
  obtain ⟨R, Rr, h1, h2, h3, h4, h5⟩ := h
  refine (cut_all B R n L1 m w h1).mono ?_
  rintro e w' ⟨rfl, hb, hf⟩
  have := hf.size
  exact ⟨rfl, ⟨R, Rr, hb, h2.fr hf (fun k hk h => by subst h; have := (h4 k hk).1; omega), fun k hk => by have := h3 k hk; exact ⟨this.1, by omega, this.2.2⟩, fun k hk => by have := h4 k hk; exact ⟨this.1, by omega, this.2.2⟩, by omega⟩, hf.mono (fun k _ h => by omega)⟩

theorem two_get (at' : Int) (h : Two X w B n L1 L2 a c) :
    Calls Try.prog 11 #[.pointer (some ⟨B, 0, none⟩), .int .i64 at'] w fun e w' => e = .returned (.tuple #[.int .i64 (getL L1 at').1, .bool (getL L1 at').2]) ∧ Two X w' B n L1 L2 a c ∧ Fr (fun _ => False) w w' := by
  obtain ⟨R, Rr, h1, _⟩ := id h
  exact (get_yes B R n L1 at' w h1).mono fun e w' ⟨he, hf⟩ => ⟨he, h.fr hf, hf⟩

theorem two_rget (at' : Int) (h : Two X w B n L1 L2 a c) (hl : L2.length ≤ 9223372036854775807) :
    Calls Try.prog 12 #[.slice a L2.length c, .int .i64 at'] w fun e w' => e = .returned (.tuple #[.int .i64 (getL L2 at').1, .bool (getL L2 at').2]) ∧ w = w' := by
  obtain ⟨Rr, hv, _⟩ := h.vw
  exact rget_all Rr a c L2 at' w hv hl

theorem two_same (h : Two X w B n L1 L1 a c) :
    Calls Try.prog 13 #[.pointer (some ⟨B, 0, none⟩), .slice a L1.length c] w fun e w' => e = .returned (.bool true) ∧ Two X w' B n L1 L1 a c ∧ Fr (fun _ => False) w w' := by
  obtain ⟨R, Rr, h1, h2, _⟩ := id h
  exact (same_true B R Rr n L1 a c w h1 h2.vw).mono fun e w' ⟨he, hf⟩ => ⟨he, h.fr hf, hf⟩

theorem Two.tail {e : Int × Int} (h : Two X w B n L1 (e :: L2) a c) : Two X w B n L1 L2 (if c = 1 then a else a.map (·.add 2)) (c - 1) := by
  obtain ⟨R, Rr, h1, h2, h3, h4, h5⟩ := h
  exact ⟨R, Rr, h1, by simpa using OwnAt.tail (v := [.int .i64 e.1, .int .i64 e.2]) (cs := ent L2) h2 rfl, h3, h4, h5⟩

theorem Two.take {m : Nat} (h : Two X w B n L1 L2 a c) (hm : m ≤ L2.length) : Two X w B n L1 (L2.take m) a c := by
  obtain ⟨R, Rr, h1, h2, h3, h4, h5⟩ := h
  have h6 := h2.shrink hm
  rw [ent_take] at h6
  have hl : (L2.take m).length = m := by simp; omega
  exact ⟨R, Rr, h1, by rw [hl]; exact h6, h3, h4, h5⟩

theorem two_app {R Rr : Nat → Prop} {e : Int × Int} {a' : Option Addr} {c' : Nat} (h1 : BufRep w B R n L1) (h3 : ∀ k, R k → B < k ∧ k < w.heap.size ∧ ¬ Rr k ∧ k ≠ X) (h4 : ∀ k, Rr k → B < k ∧ k < w.heap.size ∧ k ≠ X) (h5 : X < w.heap.size)
    (ho : OwnAt w1 33 2 (fun k => Rr k ∨ w.heap.size ≤ k) a' (L2.length + 1) c' (ent L2 ++ ent [e])) (hf : Fr Rr w w1) : Two X w1 B n L1 (L2 ++ [e]) a' c' ∧ Fr (fun k => B ≤ k ∧ (k ≠ X ∨ k = B)) w w1 := by
  have hs := hf.size
  have hb := h1.lt
  refine ⟨⟨R, fun k => Rr k ∨ w.heap.size ≤ k ∧ k < w1.heap.size, h1.fr hf (fun h => by have := (h4 B h).1; omega) (fun k hk h => (h3 k hk).2.2.1 h), ?_, fun k hk => ?_, fun k hk => ?_, by omega⟩, hf.mono (fun k _ h => by have := h4 k h; omega)⟩
  · rw [ent_append, List.length_append]
    exact ho.mono (fun k hk h => h.imp id (fun h => ⟨h, hk⟩))
  · have := h3 k hk
    refine ⟨this.1, by omega, fun h => ?_, this.2.2.2⟩
    rcases h with h | h
    · exact this.2.2.1 h
    · omega
  · rcases hk with h | h
    · have := h4 k h; exact ⟨this.1, by omega, this.2.2⟩
    · exact ⟨by omega, h.2, by omega⟩

/-- The next block that is laid is no part of it. -/
theorem Two.box (h : Two X w B n L1 L2 a c) (hf : Fr (fun _ => False) w w1) (hl : w.heap.size < w1.heap.size) : Two w.heap.size w1 B n L1 L2 a c := by
  obtain ⟨R, Rr, h1, h2, h3, h4, h5⟩ := Two.fr h hf
  obtain ⟨R', Rr', g1, g2, g3, g4, g5⟩ := h
  exact ⟨R', Rr', g1.fr hf (fun h => h) (fun _ _ h => h), g2.fr hf (fun _ _ h => h), fun k hk => by have := g3 k hk; exact ⟨this.1, by omega, this.2.2.1, by omega⟩, fun k hk => by have := g4 k hk; exact ⟨this.1, by omega, by omega⟩, by omega⟩

theorem infoTE : (Try.prog.info? 33).map (fun i => (i.zero, i.size, i.bytes)) = some (some (.agg #[.int .i64 0, .int .i64 0]), 2, 16) := by kernel_rfl
end Go.Proofs.Ytkpbojddahddnaa
