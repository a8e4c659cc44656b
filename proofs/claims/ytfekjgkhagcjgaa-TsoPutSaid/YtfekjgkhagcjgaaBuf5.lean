/-
  The contracts of package buffer, each in one form for all states; and at no buffer (nil).
-/
import Derived.Test.YtfekjgkhagcjgaaBuf4
namespace Go.Proofs.Ytfekjgkhagcjgaa
open Go.RowKit
attribute [local irreducible] wpStill wpList Calls CallsIn

def pushL (room : Nat) (l : List (Int × Int)) (e : Int × Int) : List (Int × Int) := if l.length < room then l ++ [e] else l
def headL (l : List (Int × Int)) : Int × Int := l.headD (0, 0)

theorem push_all (b : Nat) (R : Nat → Prop) (room : Nat) (l : List (Int × Int)) (x y : Int) (w : World) (hb : BufRep w b R room l) :
    Calls Try.prog 57 #[.pointer (some ⟨b, 0, none⟩), .agg #[.int .i64 x, .int .i64 y]] w fun e w' => e = .returned (.bool (decide (l.length < room))) ∧
      BufRep w' b (fun k => R k ∨ w.heap.size ≤ k) room (pushL room l (x, y)) ∧ Fr (fun k => k = b ∨ R k) w w' := by
  by_cases h : l.length < room
  · refine (push_yes b R room l x y w hb h).mono ?_
    rintro e w' ⟨rfl, h1, h2⟩
    simp only [pushL, h, if_true, decide_true]
    exact ⟨trivial, h1, h2⟩
  · refine (push_no b R room l x y w hb (by have := hb.2.2.1; omega)).mono ?_
    rintro e w' ⟨rfl, h2⟩
    simp only [pushL, h, if_false, decide_false]
    refine ⟨trivial, (hb.fr h2 (fun h => h) (fun _ _ h => h)).mono (fun k _ h => .inl h) (fun h => ?_), h2.mono (fun _ _ h => h.elim)⟩
    rcases h with h | h
    · exact hb.2.2.2.1 h
    · have := hb.lt; omega

theorem pop_all (b : Nat) (R : Nat → Prop) (room : Nat) (l : List (Int × Int)) (w : World) (hb : BufRep w b R room l) :
    Calls Try.prog 32 #[.pointer (some ⟨b, 0, none⟩)] w fun e w' => e = .returned (.tuple #[.agg #[.int .i64 (headL l).1, .int .i64 (headL l).2], .bool (decide (0 < l.length))]) ∧
      BufRep w' b R room l.tail ∧ Fr (fun k => k = b) w w' := by
  cases l with
  | nil =>
    refine (pop_none b R room w hb).mono ?_
    rintro e w' ⟨rfl, h2⟩
    exact ⟨rfl, hb.fr h2 (fun h => h) (fun _ _ h => h), h2.mono (fun _ _ h => h.elim)⟩
  | cons e l =>
    refine (pop_some b R room e.1 e.2 l w hb).mono ?_
    rintro e' w' ⟨rfl, h1, h2⟩
    exact ⟨rfl, h1, h2⟩

theorem cut_all (b : Nat) (R : Nat → Prop) (room : Nat) (l : List (Int × Int)) (n : Int) (w : World) (hb : BufRep w b R room l) :
    Calls Try.prog 56 #[.pointer (some ⟨b, 0, none⟩), .int .i64 n] w fun e w' => e = .returned (.tuple #[]) ∧ BufRep w' b R room (l.take n.toNat) ∧ Fr (fun k => k = b) w w' := by
  by_cases h : n < 0
  · rw [show n.toNat = 0 by omega]
    simpa using cut_neg b R room l n w hb h
  · have h1 := cut_nat b R room l n.toNat w hb
    rwa [show ((n.toNat : Nat) : Int) = n by omega] at h1

theorem new_all (room : Int) (w : World) :
    Calls Try.prog 29 #[.int .i64 room] w fun e w' => e = .returned (.pointer (if 1 ≤ room ∧ room ≤ 1000 then some ⟨w.heap.size, 0, none⟩ else none)) ∧ Fr (fun _ => False) w w' ∧
      (1 ≤ room ∧ room ≤ 1000 → BufRep w' w.heap.size (fun _ => False) room.toNat []) := by
  by_cases h : 1 ≤ room ∧ room ≤ 1000
  · have h1 := new_yes room.toNat w (by omega) (by omega)
    rw [show ((room.toNat : Nat) : Int) = room by omega] at h1
    refine h1.mono ?_
    rintro e w' ⟨rfl, h2, h3⟩
    rw [if_pos h]
    exact ⟨rfl, h3, fun _ => h2⟩
  · refine (new_no room w (by omega)).mono ?_
    rintro e w' ⟨rfl, h3⟩
    rw [if_neg h]
    exact ⟨rfl, h3, fun h' => absurd h' h⟩

theorem pop_nil (w : World) : Calls Try.prog 32 #[.pointer none] w fun e w' => e = .returned (.tuple #[.agg #[.int .i64 0, .int .i64 0], .bool false]) ∧ Fr (fun _ => False) w w' := by
  go_enter Try.func32, Try.ntmps32
  go_wp2_with (first | (go_at_call 61; refine (len_nil _).mono ?_; rintro e w' ⟨rfl, rfl⟩) | still_step | (with_reducible refine wpStill_nil ?_) | (with_reducible refine Flow.Both.mk ?_ ?_) | (with_reducible exact True.intro) | (with_reducible refine Flow.same_mk rfl rfl rfl ?_; go_simp; done) | (with_reducible exact Flow.same_un rfl rfl rfl) | (refine Flow.region_still mixed ?hB ?_; (case hB => decide +kernel)))
  exact bodyPost_ret (v := .tuple #[.agg #[.int .i64 0, .int .i64 0], .bool false]) (by simp [results, Try.results32, go_sem]) rfl ⟨rfl, by (repeat' (first | with_reducible exact Fr.refl _ _ | with_reducible apply Fr.alloc | with_reducible apply Fr.drew | with_reducible apply Fr.drewN | (with_reducible refine Fr.setCell ?_ ?_ _)))⟩
end Go.Proofs.Ytfekjgkhagcjgaa
