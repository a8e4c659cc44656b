/-
  The machine of chapter 28 in plain Lean: threads with waiting stores, memory, locks, events.
-/
import Derived.Test.YtbfeopakmjcapaaOpenB
import Derived.Test.YtbfeopakmjcapaaCalc
set_option linter.unusedVariables false
set_option linter.unusedSimpArgs false
set_option maxHeartbeats 4000000
set_option maxRecDepth 8000
namespace Go.Proofs.Ytbfeopakmjcapaa.Tso
open Go.RowKit Go.Proofs.Ytbfeopakmjcapaa.Seq

structure Leak where
  (kind thread what n : Int)
deriving DecidableEq, Inhabited

structure Ev where
  (kind thread n : Int)
deriving DecidableEq, Inhabited

structure Th where
  code : List Ins
  place : Int
  regs : List Int
  wait : List (Int × Int)
  over : Bool
deriving DecidableEq, Inhabited

structure M where
  ths : List Th
  mem : List Int
  own : List Int
  events : List Ev
  room : Nat
deriving DecidableEq

def none_ : Leak := ⟨0, 0, 0, 0⟩
def Th.reg (t : Th) (n : Int) : Int := t.regs.getD n.toNat 0
def Th.set (t : Th) (n x : Int) : Th := { t with regs := t.regs.set n.toNat x }
def Th.word (t : Th) (i : Ins) : Int := if i.a < 0 then i.n else wrap64 (i.n + t.reg i.a)
def Th.step (t : Th) : Th := { t with place := wrap64 (t.place + 1) }
def Th.next (t : Th) : Option Ins := if t.over = false ∧ 0 ≤ t.place ∧ t.place < t.code.length then t.code[t.place.toNat]? else none
/-- What the newest store to a word that waits has. -/
def newest (l : List (Int × Int)) (w : Int) : Option Int := (l.reverse.find? fun e => e.1 == w).map (·.2)
def memAt (mem : List Int) (w : Int) : Option Int := if 0 ≤ w ∧ w < mem.length then mem[w.toNat]? else none
def put (mem : List Int) (e : Int × Int) : List Int := if 0 ≤ e.1 ∧ e.1 < mem.length then mem.set e.1.toNat e.2 else mem

/-- An instruction: the thread, the owners, the events behind it, and what is seen; none: it can't be done. -/
def doIns (m : M) (who : Int) (t : Th) (i : Ins) : Option (Th × List Int × List Ev × Leak) :=
  let did (t : Th) (own : List Int) (kind x : Int) : Option (Th × List Int × List Ev × Leak) := some (t, own, m.events ++ [⟨kind, who, x⟩], ⟨5, who, kind, x⟩)
  if i.k = 7 then
    if t.reg i.a = 0 then some ({ t with place := i.to }, m.own, m.events, ⟨3, who, 0, 1⟩) else some (t.step, m.own, m.events, ⟨3, who, 0, 0⟩)
  else if i.k = 4 then
    let w := t.word i
    let x := match newest t.wait w with | some x => x | none => (memAt m.mem w).getD 0
    some ((t.set i.d x).step, m.own, m.events, ⟨1, who, 0, w⟩)
  else if i.k = 5 then
    if t.wait.length < m.room then some ({ t with wait := t.wait ++ [(t.word i, t.reg i.b)] }.step, m.own, m.events, ⟨2, who, 0, t.word i⟩) else none
  else if i.k = 9 then
    if 0 < t.wait.length ∨ m.own.getD i.n.toNat (-1) ≠ -1 then none else did t.step (m.own.set i.n.toNat who) 1 i.n
  else if i.k = 10 then
    if 0 < t.wait.length then none else did t.step (m.own.set i.n.toNat (-1)) 2 i.n
  else if i.k = 11 then did t.step m.own 0 (t.reg i.a)
  else if i.k = 12 then did { t with over := true } m.own 3 i.n
  else if i.k = 13 then did { t with over := true } m.own 4 0
  else
    let t1 :=
      if i.k = 0 then t.set i.d i.n
      else if i.k = 1 then t.set i.d (t.reg i.a)
      else if i.k = 2 then t.set i.d (evalZ i.op (t.reg i.a) (t.reg i.b))
      else if i.k = 3 then (if t.reg i.a ≠ 0 then t.set i.d (t.reg i.b) else t)
      else t
    some (if i.k = 6 then { t1.step with place := i.to } else t1.step, m.own, m.events, ⟨0, who, 0, 0⟩)

def M.th (m : M) (who : Int) : Option Th := if 0 ≤ who ∧ who < m.ths.length then m.ths[who.toNat]? else none

def M.step (m : M) (who : Int) : M × Leak × Bool :=
  match m.th who with
  | none => (m, none_, false)
  | some t =>
    match t.next with
    | none => (m, none_, false)
    | some i =>
      match doIns m who t i with
      | none => (m, none_, false)
      | some (t', own, ev, k) => ({ m with ths := m.ths.set who.toNat t', own := own, events := ev }, k, true)

def M.flush (m : M) (who : Int) : M × Leak × Bool :=
  match m.th who with
  | none => (m, none_, false)
  | some t =>
    match t.wait with
    | [] => (m, none_, false)
    | e :: r => ({ m with ths := m.ths.set who.toNat { t with wait := r }, mem := put m.mem e }, ⟨4, who, 0, e.1⟩, true)

/-- What a code of an image may be (chapter 11): where each number may stand. -/
def insOk (size locks : Int) (i : Ins) : Prop :=
  0 ≤ i.k ∧ i.k ≤ 13 ∧ 0 ≤ i.d ∧ i.d < 16 ∧ 0 ≤ i.b ∧ i.b < 16 ∧ (0 ≤ i.a ∨ ((i.k = 4 ∨ i.k = 5) ∧ i.a = -1)) ∧ i.a < 16 ∧ 0 ≤ i.op ∧ i.op ≤ 18 ∧ 0 ≤ i.to ∧ i.to < size ∧
    ((i.k = 9 ∨ i.k = 10) → 0 ≤ i.n ∧ i.n < locks) ∧ ((i.k = 4 ∨ i.k = 5) → 0 ≤ i.n ∧ i.n ≤ 65535)
end Go.Proofs.Ytbfeopakmjcapaa.Tso

/-
  Plain laws of chapter 28's machine: steps leave memory, a flush writes one word, what is seen of a step.
-/
namespace Go.Proofs.Ytbfeopakmjcapaa.Tso
open Go.RowKit Go.Proofs.Ytbfeopakmjcapaa.Seq

theorem step_mem (m : M) (who : Int) : (m.step who).1.mem = m.mem := by
  unfold M.step
  split
  · rfl
  · split
    · rfl
    · split <;> rfl

theorem put_length (mem : List Int) (e : Int × Int) : (put mem e).length = mem.length := by
  unfold put; split <;> simp

theorem flush_len (m : M) (who : Int) : (m.flush who).1.mem.length = m.mem.length := by
  unfold M.flush
  split
  · rfl
  · split
    · rfl
    · exact put_length _ _

/-- A flush changes one word alone: that of the oldest store that waits. -/
theorem flush_word (m : M) (who : Int) (j : Nat) (h : (m.flush who).1.mem.getD j 0 ≠ m.mem.getD j 0) :
    ∃ t e r, m.th who = some t ∧ t.wait = e :: r ∧ (m.flush who).2.1 = ⟨4, who, 0, e.1⟩ ∧ (j : Int) = e.1 ∧ (m.flush who).1.mem.getD j 0 = e.2 := by
  unfold M.flush at h ⊢
  cases ht : m.th who with
  | none => rw [ht] at h; exact absurd rfl h
  | some t =>
    rw [ht] at h
    dsimp only at h ⊢
    cases hw : t.wait with
    | nil => rw [hw] at h; exact absurd rfl h
    | cons e r =>
      rw [hw] at h
      dsimp only at h ⊢
      refine ⟨t, e, r, rfl, hw, rfl, ?_⟩
      unfold put at h ⊢
      by_cases hc : 0 ≤ e.1 ∧ e.1 < m.mem.length
      · rw [if_pos hc] at h ⊢
        by_cases hj : e.1.toNat = j
        · subst hj
          refine ⟨by omega, ?_⟩
          have hl : e.1.toNat < m.mem.length := by omega
          simp [List.getD, hl]
        · rw [List.getD_eq_getElem?_getD, List.getElem?_set_ne hj, ← List.getD_eq_getElem?_getD] at h
          exact absurd rfl h
      · rw [if_neg hc] at h
        exact absurd rfl h

/-- What is seen of a step is what its instruction, and its registers, tell. -/
theorem step_seen (m : M) (who : Int) (h : (m.step who).2.2 = true) : ∃ t i, m.th who = some t ∧ t.next = some i ∧ (m.step who).2.1.thread = who ∧
    (i.k = 4 → (m.step who).2.1.kind = 1 ∧ (m.step who).2.1.n = t.word i) ∧ (i.k = 5 → (m.step who).2.1.kind = 2 ∧ (m.step who).2.1.n = t.word i) ∧
    (i.k = 7 → (m.step who).2.1.kind = 3 ∧ ((m.step who).2.1.n = 1 ↔ t.reg i.a = 0)) ∧ ((i.k = 9 ∨ i.k = 10 ∨ i.k = 11 ∨ i.k = 12 ∨ i.k = 13) → (m.step who).2.1.kind = 5) ∧
    ((i.k ≠ 4 ∧ i.k ≠ 5 ∧ i.k ≠ 7 ∧ i.k ≠ 9 ∧ i.k ≠ 10 ∧ i.k ≠ 11 ∧ i.k ≠ 12 ∧ i.k ≠ 13) → (m.step who).2.1.kind = 0) := by
  unfold M.step at h ⊢
  cases ht : m.th who with
  | none => rw [ht] at h; cases h
  | some t =>
    rw [ht] at h
    dsimp only at h ⊢
    cases hn : t.next with
    | none => rw [hn] at h; cases h
    | some i =>
      rw [hn] at h
      dsimp only at h ⊢
      cases hd : doIns m who t i with
      | none => rw [hd] at h; cases h
      | some r =>
        obtain ⟨t', own, ev, k⟩ := r
        refine ⟨t, i, rfl, hn, ?_⟩
        dsimp only
        unfold doIns at hd
        by_cases h7 : i.k = 7
        · rw [if_pos h7] at hd
          split at hd <;> rename_i hz <;> obtain ⟨_, _, _, rfl⟩ := hd <;> simp [h7, hz]
        rw [if_neg h7] at hd
        by_cases h4 : i.k = 4
        · rw [if_pos h4] at hd
          obtain ⟨_, _, _, rfl⟩ := hd
          simp [h4]
        rw [if_neg h4] at hd
        by_cases h5 : i.k = 5
        · rw [if_pos h5] at hd
          split at hd
          · obtain ⟨_, _, _, rfl⟩ := hd
            simp [h5]
          · cases hd
        rw [if_neg h5] at hd
        by_cases h9 : i.k = 9
        · rw [if_pos h9] at hd
          split at hd
          · cases hd
          · obtain ⟨_, _, _, rfl⟩ := hd
            simp [h9]
        rw [if_neg h9] at hd
        by_cases h10 : i.k = 10
        · rw [if_pos h10] at hd
          split at hd
          · cases hd
          · obtain ⟨_, _, _, rfl⟩ := hd
            simp [h10]
        rw [if_neg h10] at hd
        by_cases h11 : i.k = 11
        · rw [if_pos h11] at hd
          obtain ⟨_, _, _, rfl⟩ := hd
          simp [h11]
        rw [if_neg h11] at hd
        by_cases h12 : i.k = 12
        · rw [if_pos h12] at hd
          obtain ⟨_, _, _, rfl⟩ := hd
          simp [h12]
        rw [if_neg h12] at hd
        by_cases h13 : i.k = 13
        · rw [if_pos h13] at hd
          obtain ⟨_, _, _, rfl⟩ := hd
          simp [h13]
        rw [if_neg h13] at hd
        obtain ⟨_, _, _, rfl⟩ := hd
        simp [h4, h5, h7, h9, h10, h11, h12, h13]
end Go.Proofs.Ytbfeopakmjcapaa.Tso
