/-
  The machine of chapter 28 in plain Lean: threads with waiting stores, memory, locks, events.
-/
import Derived.Test.YtfekjgkhagcjgaaIns
import Derived.Test.YtfekjgkhagcjgaaCalc
namespace Go.Proofs.Ytfekjgkhagcjgaa.Tso
open Go.RowKit Go.Proofs.Ytfekjgkhagcjgaa.Seq

structure Leak where
  (kind thread what n : Int)
deriving DecidableEq, Inhabited

structure Ev where
  (kind thread n : Int)
deriving DecidableEq, Inhabited

structure Th where
  code : List Ins
  place : Int
  regs : List Int
  wait : List (Int × Int)
  over : Bool
deriving DecidableEq, Inhabited

structure M where
  ths : List Th
  mem : List Int
  own : List Int
  events : List Ev
  room : Nat
deriving DecidableEq

def none_ : Leak := ⟨0, 0, 0, 0⟩
def Th.reg (t : Th) (n : Int) : Int := t.regs.getD n.toNat 0
def Th.set (t : Th) (n x : Int) : Th := { t with regs := t.regs.set n.toNat x }
def Th.word (t : Th) (i : Ins) : Int := if i.a < 0 then i.n else wrap64 (i.n + t.reg i.a)
def Th.step (t : Th) : Th := { t with place := wrap64 (t.place + 1) }
def Th.next (t : Th) : Option Ins := if t.over = false ∧ 0 ≤ t.place ∧ t.place < t.code.length then t.code[t.place.toNat]? else none
/-- What the newest store to a word that waits has. -/
def newest (l : List (Int × Int)) (w : Int) : Option Int := (l.reverse.find? fun e => e.1 == w).map (·.2)
def memAt (mem : List Int) (w : Int) : Option Int := if 0 ≤ w ∧ w < mem.length then mem[w.toNat]? else none
def put (mem : List Int) (e : Int × Int) : List Int := if 0 ≤ e.1 ∧ e.1 < mem.length then mem.set e.1.toNat e.2 else mem

/-- An instruction: the thread, the owners, the events behind it, and what is seen; none: it can't be done. -/
def doIns (m : M) (who : Int) (t : Th) (i : Ins) : Option (Th × List Int × List Ev × Leak) :=
  let did (t : Th) (own : List Int) (kind x : Int) : Option (Th × List Int × List Ev × Leak) := some (t, own, m.events ++ [⟨kind, who, x⟩], ⟨5, who, kind, x⟩)
  if i.k = 7 then
    if t.reg i.a = 0 then some ({ t with place := i.to }, m.own, m.events, ⟨3, who, 0, 1⟩) else some (t.step, m.own, m.events, ⟨3, who, 0, 0⟩)
  else if i.k = 4 then
    let w := t.word i
    let x := match newest t.wait w with | some x => x | none => (memAt m.mem w).getD 0
    some ((t.set i.d x).step, m.own, m.events, ⟨1, who, 0, w⟩)
  else if i.k = 5 then
    if t.wait.length < m.room then some ({ t with wait := t.wait ++ [(t.word i, t.reg i.b)] }.step, m.own, m.events, ⟨2, who, 0, t.word i⟩) else none
  else if i.k = 9 then
    if 0 < t.wait.length ∨ m.own.getD i.n.toNat (-1) ≠ -1 then none else did t.step (m.own.set i.n.toNat who) 1 i.n
  else if i.k = 10 then
    if 0 < t.wait.length then none else did t.step (m.own.set i.n.toNat (-1)) 2 i.n
  else if i.k = 11 then did t.step m.own 0 (t.reg i.a)
  else if i.k = 12 then did { t with over := true } m.own 3 i.n
  else if i.k = 13 then did { t with over := true } m.own 4 0
  else
    let t1 :=
      if i.k = 0 then t.set i.d i.n
      else if i.k = 1 then t.set i.d (t.reg i.a)
      else if i.k = 2 then t.set i.d (evalZ i.op (t.reg i.a) (t.reg i.b))
      else if i.k = 3 then (if t.reg i.a ≠ 0 then t.set i.d (t.reg i.b) else t)
      else t
    some (if i.k = 6 then { t1.step with place := i.to } else t1.step, m.own, m.events, ⟨0, who, 0, 0⟩)

def M.th (m : M) (who : Int) : Option Th := if 0 ≤ who ∧ who < m.ths.length then m.ths[who.toNat]? else none

def M.step (m : M) (who : Int) : M × Leak × Bool :=
  match m.th who with
  | none => (m, none_, false)
  | some t =>
    match t.next with
    | none => (m, none_, false)
    | some i =>
      match doIns m who t i with
      | none => (m, none_, false)
      | some (t', own, ev, k) => ({ m with ths := m.ths.set who.toNat t', own := own, events := ev }, k, true)

def M.flush (m : M) (who : Int) : M × Leak × Bool :=
  match m.th who with
  | none => (m, none_, false)
  | some t =>
    match t.wait with
    | [] => (m, none_, false)
    | e :: r => ({ m with ths := m.ths.set who.toNat { t with wait := r }, mem := put m.mem e }, ⟨4, who, 0, e.1⟩, true)

/-- What a code of an image may be (chapter 11): where each number may stand. -/
def insOk (size locks : Int) (i : Ins) : Prop :=
  0 ≤ i.k ∧ i.k ≤ 13 ∧ 0 ≤ i.d ∧ i.d < 16 ∧ 0 ≤ i.b ∧ i.b < 16 ∧ (0 ≤ i.a ∨ ((i.k = 4 ∨ i.k = 5) ∧ i.a = -1)) ∧ i.a < 16 ∧ 0 ≤ i.op ∧ i.op ≤ 18 ∧ 0 ≤ i.to ∧ i.to < size ∧
    ((i.k = 9 ∨ i.k = 10) → 0 ≤ i.n ∧ i.n < locks) ∧ ((i.k = 4 ∨ i.k = 5) → 0 ≤ i.n ∧ i.n ≤ 65535)
end Go.Proofs.Ytfekjgkhagcjgaa.Tso
