/-
  The machine of chapter 12 in plain Lean: threads, their registers, memory, locks; a turn.
-/
import Derived.Test.YtokmdjpaegaojaaCalc
namespace Go.Proofs.Ytokmdjpaegaojaa.Seq
open Go.RowKit

/-- An instruction. -/
structure Ins where
  (k op d a b n to : Int)
deriving DecidableEq, Inhabited

structure Th where
  code : List Ins
  at_ : Int
  regs : Int → Option Int
  over : Bool

structure M where
  ths : List Th
  mem : List Int
  owner : Int → Option Int

/-- An event, and what a turn comes to. -/
structure Ev where
  (kind thread n : Int)
deriving DecidableEq, Inhabited

def updI (f : Int → Option Int) (n : Int) (v : Option Int) : Int → Option Int := fun x => if x = n then v else f x

namespace Th
def get (t : Th) (n : Int) : Int := (t.regs n).getD 0
def set (t : Th) (n x : Int) : Th := if 0 ≤ n then { t with regs := updI t.regs n (some x) } else t
def next (t : Th) : Ins := if 0 ≤ t.at_ ∧ t.at_ < t.code.length then t.code.getD t.at_.toNat default else ⟨13, 0, 0, 0, 0, 0, 0⟩
def step (t : Th) : Th := { t with at_ := wrap64 (t.at_ + 1) }
end Th

/-- The word of an instruction; none: there is none. -/
def word (mem : List Int) (t : Th) (i : Ins) : Option Nat :=
  let w := if 0 ≤ i.a then wrap64 (i.n + t.get i.a) else i.n
  if w < 0 ∨ (mem.length : Int) ≤ w then none else some w.toNat

/-- An instruction that is no event: memory, and the thread. -/
def plain (mem : List Int) (t0 : Th) (i : Ins) : List Int × Th :=
  let t := t0.step
  if i.k = 0 then (mem, t.set i.d i.n)
  else if i.k = 1 then (mem, t.set i.d (t.get i.a))
  else if i.k = 2 then (mem, t.set i.d (evalZ i.op (t.get i.a) (t.get i.b)))
  else if i.k = 3 then (mem, if t.get i.a ≠ 0 then t.set i.d (t.get i.b) else t)
  else if i.k = 4 then (mem, t.set i.d (match word mem t i with | some x => mem.getD x 0 | none => 0))
  else if i.k = 5 then ((match word mem t i with | some x => mem.set x (t.get i.b) | none => mem), t)
  else if i.k = 6 then (mem, { t with at_ := i.to })
  else if i.k = 7 then (mem, if t.get i.a = 0 then { t with at_ := i.to } else t)
  else (mem, t)

def none_ : Ev := ⟨0, 0, 0⟩

/-- An instruction that is an event: the owners, the thread, the event, what it comes to; none: it is no event. -/
def event (own : Int → Option Int) (who : Int) (t : Th) (i : Ins) : Option ((Int → Option Int) × Th × Ev × Int) :=
  if i.k = 11 then some (own, t.step, ⟨0, who, t.step.get i.a⟩, 0)
  else if i.k = 9 then some (match own i.n with | some _ => (own, t, none_, 1) | none => (updI own i.n (some who), t.step, ⟨1, who, i.n⟩, 0))
  else if i.k = 10 then some (updI own i.n none, t.step, ⟨2, who, i.n⟩, 0)
  else if i.k = 12 then some (own, { t with over := true }, ⟨3, who, i.n⟩, 0)
  else if i.k = 13 then some (own, { t with over := true }, ⟨4, who, 0⟩, 0)
  else none

/-- A thread goes on to its next event. -/
def go (who : Int) : Nat → List Int → (Int → Option Int) → Th → List Int × (Int → Option Int) × Th × Ev × Int
  | 0, mem, own, t => (mem, own, t, none_, 3)
  | n + 1, mem, own, t =>
    match event own who t t.next with
    | some (own', t', e, x) => (mem, own', t', e, x)
    | none => let (mem', t') := plain mem t t.next; go who n mem' own t'

def M.turn (m : M) (who fuel : Int) : M × Ev × Int :=
  if 0 ≤ who ∧ who < m.ths.length then
    match m.ths[who.toNat]? with
    | some t => if t.over then (m, none_, 2) else
      let (mem', own', t', e, x) := go who fuel.toNat m.mem m.owner t
      (⟨m.ths.set who.toNat t', mem', own'⟩, e, x)
    | none => (m, none_, 2)
  else (m, none_, 2)

/-- With the fuel of two turns a thread does what they do. -/
theorem go_more (who : Int) (j : Nat) : ∀ (n : Nat) (mem : List Int) (own : Int → Option Int) (t : Th),
    (go who n mem own t).2.2.2.2 = 3 → (∀ own t, ∀ r, event own who t t.next = some r → r.2.2.2 ≠ 3) →
    go who (n + j) mem own t = go who j (go who n mem own t).1 (go who n mem own t).2.1 (go who n mem own t).2.2.1
  | 0, mem, own, t, _, _ => by simp [go]
  | n + 1, mem, own, t, h, hE => by
    rw [show n + 1 + j = (n + j) + 1 by omega]
    cases he : event own who t t.next with
    | some r =>
      obtain ⟨own', t', e, x⟩ := r
      have e1 : go who (n + 1) mem own t = (mem, own', t', e, x) := by simp only [go, he]
      rw [e1] at h
      exact absurd h (hE own t _ he)
    | none =>
      have e1 : ∀ n, go who (n + 1) mem own t = go who n (plain mem t t.next).1 own (plain mem t t.next).2 := fun n => by simp only [go, he]
      rw [e1] at h
      rw [e1, e1]
      exact go_more who j n _ own _ h hE

theorem event_x (own : Int → Option Int) (who : Int) (t : Th) (i : Ins) (r) (h : event own who t i = some r) : r.2.2.2 = 0 ∨ r.2.2.2 = 1 := by
  unfold event at h
  split at h
  · obtain rfl := Option.some.inj h; simp
  split at h
  · obtain rfl := Option.some.inj h; split <;> simp
  split at h
  · obtain rfl := Option.some.inj h; simp
  split at h
  · obtain rfl := Option.some.inj h; simp
  split at h
  · obtain rfl := Option.some.inj h; simp
  · cases h

/-- What has had its event has it with more fuel too. -/
theorem go_done (who : Int) (j : Nat) : ∀ (n : Nat) (mem : List Int) (own : Int → Option Int) (t : Th), (go who n mem own t).2.2.2.2 ≠ 3 → go who (n + j) mem own t = go who n mem own t
  | 0, mem, own, t, h => absurd rfl h
  | n + 1, mem, own, t, h => by
    rw [show n + 1 + j = (n + j) + 1 by omega]
    unfold go at h ⊢
    cases he : event own who t t.next with
    | some r => rfl
    | none =>
      rw [he] at h
      simp only at h ⊢
      exact go_done who j n _ own _ h
end Go.Proofs.Ytokmdjpaegaojaa.Seq
