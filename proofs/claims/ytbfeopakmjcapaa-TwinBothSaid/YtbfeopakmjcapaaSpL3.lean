/-
  The machine that guesses (chapter 29) in plain Lean, and what it keeps.
-/
import Derived.Test.YtbfeopakmjcapaaTsoQ
set_option linter.unusedVariables false
set_option linter.unusedSimpArgs false
set_option maxHeartbeats 4000000
set_option maxRecDepth 8000
namespace Go.Proofs.Ytbfeopakmjcapaa.Sp
open Go.RowKit Go.Proofs.Ytbfeopakmjcapaa.Seq Go.Proofs.Ytbfeopakmjcapaa.Tso

/-- A guess: how the thread stood, how many stores waited and still do, the steps ahead of it. -/
structure Gs where
  place : Int
  regs : List Int
  over : Bool
  kept : Int
  steps : Int
deriving DecidableEq, Inhabited

abbrev Op := List Gs × Int

structure SM where
  x : M
  op : List Op
  window : Int

def SM.guesses (s : SM) (n : Int) : Option Op := if 0 ≤ n ∧ n < s.op.length then s.op[n.toNat]? else none
def SM.set (s : SM) (n : Int) (o : Op) (x : M) : SM := { s with op := s.op.set n.toNat o, x := x }
def SM.count (s : SM) (n : Int) : Nat := match s.guesses n with | none => 0 | some o => o.1.length

def SM.step (s : SM) (n : Int) (o : Op) : SM × Leak × Bool :=
  if 0 < o.1.length ∧ (s.window ≤ o.2 ∨ 8 ≤ ((s.x.next n).getD noneI).k) then (s, none_, false) else
    let r := s.x.step n
    (if r.2.2 = true ∧ 0 < o.1.length then s.set n (o.1, wrap64 (o.2 + 1)) r.1 else { s with x := r.1 }, r.2.1, r.2.2)

def less (g : Gs) : Gs := { g with kept := wrap64 (g.kept - 1) }
def SM.flush (s : SM) (n : Int) (o : Op) : SM × Leak × Bool :=
  if 0 < o.1.length ∧ (o.1.headD default).kept = 0 then (s, none_, false) else
    let r := s.x.flush n
    (if r.2.2 = true then s.set n (o.1.map less, o.2) r.1 else { s with x := r.1 }, r.2.1, r.2.2)

/-- A guess more: the thread stands otherwise behind it. -/
def SM.guess (s : SM) (n : Int) (o : Op) (t u : Th) : SM :=
  s.set n (o.1 ++ [⟨t.place, t.regs, t.over, t.wait.length, o.2⟩], wrap64 (o.2 + 1)) (s.x.put n u)

def SM.begins (s : SM) (n : Int) (o : Op) (kind : Int) : Prop := (s.x.next n).isSome = true ∧ ((s.x.next n).getD noneI).k = kind ∧ o.2 < s.window
instance (s : SM) (n : Int) (o : Op) (kind : Int) : Decidable (s.begins n o kind) := by unfold SM.begins; infer_instance

def turned (t : Th) (i : Ins) : Th := { t with place := if t.reg i.a = 0 then wrap64 (t.place + 1) else i.to }
def SM.turn (s : SM) (n : Int) (o : Op) : SM × Leak × Bool :=
  let i := (s.x.next n).getD noneI
  let t := (s.x.th n).getD noTh
  if s.begins n o 7 then (s.guess n o t (turned t i), ⟨3, n, 0, if t.reg i.a = 0 then 0 else 1⟩, true) else (s, none_, false)

def waits (t : Th) (w : Int) : Bool := t.wait.any fun e => e.1 == w
def passed (m : M) (t : Th) (i : Ins) : Th := { t with regs := t.regs.set i.d.toNat ((memAt m.mem (t.word i)).getD 0), place := wrap64 (t.place + 1) }
def SM.pass (s : SM) (n : Int) (o : Op) : SM × Leak × Bool :=
  let i := (s.x.next n).getD noneI
  let t := (s.x.th n).getD noTh
  if s.begins n o 4 ∧ waits t (t.word i) = true then (s.guess n o t (passed s.x t i), ⟨1, n, 0, t.word i⟩, true) else (s, none_, false)

/-- How a thread stood at a guess, with what still waits. -/
def stoodAt (t : Th) (g : Gs) : Th := { t with place := g.place, regs := g.regs, wait := t.wait.take g.kept.toNat }
def SM.back (s : SM) (n : Int) (o : Op) : SM × Leak × Bool :=
  if o.1.length = 0 then (s, none_, false) else
    let g := o.1.getLastD default
    (s.set n (o.1.dropLast, g.steps) (s.x.put n (stoodAt ((s.x.th n).getD noTh) g)), ⟨6, n, 0, 0⟩, true)

def SM.doIt (s : SM) (kind n : Int) : SM × Leak × Bool :=
  match s.guesses n with
  | none => (s, none_, false)
  | some o => if kind = 0 then s.step n o else if kind = 1 then s.flush n o else if kind = 2 then s.turn n o else if kind = 3 then s.pass n o else if kind = 4 then s.back n o else (s, none_, false)

def SM.sure (s : SM) (n : Int) : Th :=
  match s.guesses n with
  | none => (s.x.th n).getD noTh
  | some o => match o.1 with
    | [] => (s.x.th n).getD noTh
    | g :: _ => stoodAt ((s.x.th n).getD noTh) g

/-- One thread's guesses are in order: what is kept does not fall, and waits; steps are counted. -/
structure OkOp (window : Int) (t : Th) (o : Op) : Prop where
  regs : ∀ g ∈ o.1, g.regs.length = 16
  kept : ∀ (i : Nat) (g : Gs), o.1[i]? = some g → 0 ≤ g.kept ∧ g.kept ≤ t.wait.length
  mono : ∀ (i j : Nat) (g h : Gs), i ≤ j → o.1[i]? = some g → o.1[j]? = some h → g.kept ≤ h.kept
  steps : ∀ (i : Nat) (g : Gs), o.1[i]? = some g → (i : Int) ≤ g.steps ∧ g.steps < window
  now : (o.1.length : Int) ≤ o.2 ∧ o.2 ≤ window
structure OkS (s : SM) : Prop where
  good : GoodM s.x
  len : s.op.length = s.x.ths.length
  ops : ∀ (i : Nat) (o : Op) (t : Th), s.op[i]? = some o → s.x.ths[i]? = some t → OkOp s.window t o
  regs : ∀ (i : Nat) (t : Th), s.x.ths[i]? = some t → t.regs.length = 16 ∧ t.wait.length ≤ s.x.room
  win : 1 ≤ s.window ∧ s.window ≤ 64
  room : s.x.room ≤ 1000
end Go.Proofs.Ytbfeopakmjcapaa.Sp

/-
  What the machine that guesses keeps, whatever is done (plain Lean).
-/
namespace Go.Proofs.Ytbfeopakmjcapaa.Sp
open Go.RowKit Go.Proofs.Ytbfeopakmjcapaa.Seq Go.Proofs.Ytbfeopakmjcapaa.Tso

theorem th_nat {m : M} {k : Nat} {t : Th} (h : m.ths[k]? = some t) : m.th (k : Int) = some t := by
  unfold M.th
  have := (List.getElem?_eq_some_iff.1 h).1
  rw [if_pos (by omega)]
  simpa using h
theorem guesses_get {s : SM} {n : Int} {o : Op} (h : s.guesses n = some o) : ∃ k : Nat, n = k ∧ s.op[k]? = some o := by
  unfold SM.guesses at h
  split at h
  · rename_i hn
    exact ⟨n.toNat, by omega, h⟩
  · cases h
theorem guesses_of {s : SM} {k : Nat} {o : Op} (h : s.op[k]? = some o) : s.guesses (k : Int) = some o := by
  unfold SM.guesses
  have := (List.getElem?_eq_some_iff.1 h).1
  rw [if_pos (by omega)]
  simpa using h

theorem wrap_small {x : Int} (h : -9223372036854775808 ≤ x ∧ x ≤ 9223372036854775807) : wrap64 x = x := by unfold wrap64; omega

/-- A thread behind an instruction: its registers, its waiting stores. -/
theorem doIns_more {m : M} {who : Int} {t t' : Th} {i : Ins} {own : List Int} {ev : List Ev} {k : Leak} (h : doIns m who t i = some (t', own, ev, k)) :
    t'.regs.length = t.regs.length ∧ (∃ l, t'.wait = t.wait ++ l) ∧ (t.wait.length ≤ m.room → t'.wait.length ≤ m.room) := by
  have keep : ∀ u : Th, u.regs.length = t.regs.length → u.wait = t.wait → (u.regs.length = t.regs.length ∧ (∃ l, u.wait = t.wait ++ l) ∧ (t.wait.length ≤ m.room → u.wait.length ≤ m.room)) := fun u h1 h2 => ⟨h1, ⟨[], by simp [h2]⟩, fun h => by rw [h2]; exact h⟩
  unfold doIns at h
  dsimp only at h
  by_cases h7 : i.k = 7
  · rw [if_pos h7] at h
    split at h
    · obtain ⟨rfl, _⟩ := h; exact keep _ rfl rfl
    · obtain ⟨rfl, _⟩ := h; exact keep _ rfl rfl
  rw [if_neg h7] at h
  by_cases h4 : i.k = 4
  · rw [if_pos h4] at h
    obtain ⟨rfl, _⟩ := h; exact keep _ (by simp [Th.step, Th.set]) rfl
  rw [if_neg h4] at h
  by_cases h5 : i.k = 5
  · rw [if_pos h5] at h
    split at h
    · rename_i hr
      obtain ⟨rfl, _⟩ := h
      exact ⟨rfl, ⟨_, rfl⟩, fun _ => by simp [Th.step]; omega⟩
    · cases h
  rw [if_neg h5] at h
  by_cases h9 : i.k = 9
  · rw [if_pos h9] at h
    split at h
    · cases h
    · obtain ⟨rfl, _⟩ := h; exact keep _ rfl rfl
  rw [if_neg h9] at h
  by_cases h10 : i.k = 10
  · rw [if_pos h10] at h
    split at h
    · cases h
    · obtain ⟨rfl, _⟩ := h; exact keep _ rfl rfl
  rw [if_neg h10] at h
  by_cases h11 : i.k = 11
  · rw [if_pos h11] at h
    obtain ⟨rfl, _⟩ := h; exact keep _ rfl rfl
  rw [if_neg h11] at h
  by_cases h12 : i.k = 12
  · rw [if_pos h12] at h
    obtain ⟨rfl, _⟩ := h; exact keep _ rfl rfl
  rw [if_neg h12] at h
  by_cases h13 : i.k = 13
  · rw [if_pos h13] at h
    obtain ⟨rfl, _⟩ := h; exact keep _ rfl rfl
  rw [if_neg h13] at h
  simp only [Option.some.injEq, Prod.mk.injEq] at h
  obtain ⟨rfl, _⟩ := h
  refine keep _ ?_ ?_
  · repeat' split
    all_goals simp [Th.step, Th.set]
  · repeat' split
    all_goals rfl

/-- A step: one thread has changed. -/
theorem step_shape {m : M} {k : Nat} {t : Th} (ht : m.ths[k]? = some t) : ∃ t', (m.step k).1.ths = m.ths.set k t' ∧ t'.regs.length = t.regs.length ∧ (∃ l, t'.wait = t.wait ++ l) ∧ (t.wait.length ≤ m.room → t'.wait.length ≤ m.room) ∧ (m.step k).1.room = m.room ∧ (m.step k).1.mem = m.mem := by
  have hself : m.ths.set k t = m.ths := by
    apply List.ext_getElem?
    intro j
    rw [List.getElem?_set]
    split
    · rename_i hj; subst hj; have := (List.getElem?_eq_some_iff.1 ht).1; rw [if_pos this]; exact ht.symm
    · rfl
  have same : ∀ m' : M, m' = m → ∃ t', m'.ths = m.ths.set k t' ∧ t'.regs.length = t.regs.length ∧ (∃ l, t'.wait = t.wait ++ l) ∧ (t.wait.length ≤ m.room → t'.wait.length ≤ m.room) ∧ m'.room = m.room ∧ m'.mem = m.mem := fun m' e => ⟨t, by rw [e, hself], rfl, ⟨[], by simp⟩, fun h => h, by rw [e], by rw [e]⟩
  unfold M.step
  rw [th_nat ht]
  dsimp only
  cases hn : t.next with
  | none => exact same _ rfl
  | some i =>
    dsimp only
    cases hd : doIns m k t i with
    | none => exact same _ rfl
    | some r =>
      obtain ⟨t', own, ev, kk⟩ := r
      obtain ⟨h1, h2, h3⟩ := doIns_more hd
      exact ⟨t', by simp, h1, h2, h3, rfl, rfl⟩

theorem flush_shape {m : M} {k : Nat} {t : Th} (ht : m.ths[k]? = some t) : ((m.flush k).2.2 = false ∧ (m.flush k).1 = m ∧ t.wait = []) ∨ ((m.flush k).2.2 = true ∧ (m.flush k).1.ths = m.ths.set k { t with wait := t.wait.tail } ∧ 0 < t.wait.length ∧ (m.flush k).1.room = m.room) := by
  unfold M.flush
  rw [th_nat ht]
  dsimp only
  cases hw : t.wait with
  | nil => exact .inl ⟨rfl, rfl, rfl⟩
  | cons e r => exact .inr ⟨rfl, by simp, by simp, rfl⟩

theorem put_shape {m : M} {k : Nat} {t u : Th} (ht : m.ths[k]? = some t) (hu : u.wait.length ≤ m.room) : m.put k u = { m with ths := m.ths.set k (t.as u) } := by
  unfold M.put
  rw [th_nat ht]
  dsimp only
  rw [if_pos hu]
  simp

namespace OkS
variable {s : SM}
theorem thread (h : OkS s) {k : Nat} {o : Op} (ho : s.op[k]? = some o) : ∃ t, s.x.ths[k]? = some t ∧ OkOp s.window t o ∧ t.regs.length = 16 ∧ t.wait.length ≤ s.x.room := by
  have hk : k < s.x.ths.length := by have := (List.getElem?_eq_some_iff.1 ho).1; rw [h.len] at this; exact this
  have ht : s.x.ths[k]? = some s.x.ths[k] := by simp [hk]
  exact ⟨_, ht, h.ops k o _ ho ht, h.regs k _ ht⟩

/-- One thread, and its guesses, have changed. -/
theorem upd (h : OkS s) {k : Nat} {o o' : Op} {t t' : Th} {x' : M} (ho : s.op[k]? = some o) (ht : s.x.ths[k]? = some t) (hx : x'.ths = s.x.ths.set k t') (hg : GoodM x') (hr : x'.room = s.x.room) (hok : OkOp s.window t' o') (h16 : t'.regs.length = 16) (hw : t'.wait.length ≤ s.x.room) : OkS { s with op := s.op.set k o', x := x' } := by
  have hk : k < s.op.length := (List.getElem?_eq_some_iff.1 ho).1
  have hk2 : k < s.x.ths.length := (List.getElem?_eq_some_iff.1 ht).1
  refine ⟨hg, by simp [hx, h.len], ?_, ?_, h.win, by rw [hr]; exact h.room⟩
  · intro i o1 t1 ho1 ht1
    dsimp only at ho1 ht1 ⊢
    rw [hx] at ht1
    by_cases hi : k = i
    · subst hi
      simp only [List.getElem?_set, if_true, hk, hk2] at ho1 ht1
      obtain rfl := Option.some.inj ho1
      obtain rfl := Option.some.inj ht1
      exact hok
    · rw [List.getElem?_set_ne hi] at ho1 ht1
      exact h.ops i o1 t1 ho1 ht1
  · intro i t1 ht1
    dsimp only at ht1 ⊢
    rw [hx] at ht1
    rw [hr]
    by_cases hi : k = i
    · subst hi
      simp only [List.getElem?_set, if_true, hk2] at ht1
      obtain rfl := Option.some.inj ht1
      exact ⟨h16, hw⟩
    · rw [List.getElem?_set_ne hi] at ht1
      exact h.regs i t1 ht1
theorem set_same {k : Nat} {o : Op} (ho : s.op[k]? = some o) : s.op.set k o = s.op := by
  apply List.ext_getElem?
  intro j
  rw [List.getElem?_set]
  split
  · rename_i hj; subst hj; have := (List.getElem?_eq_some_iff.1 ho).1; rw [if_pos this]; exact ho.symm
  · rfl
theorem upd0 (h : OkS s) {k : Nat} {o : Op} {t t' : Th} {x' : M} (ho : s.op[k]? = some o) (ht : s.x.ths[k]? = some t) (hx : x'.ths = s.x.ths.set k t') (hg : GoodM x') (hr : x'.room = s.x.room) (hok : OkOp s.window t' o) (h16 : t'.regs.length = 16) (hw : t'.wait.length ≤ s.x.room) : OkS { s with x := x' } := by
  have := h.upd ho ht hx hg hr hok h16 hw
  rwa [set_same ho] at this
end OkS

theorem OkOp.more {win : Int} {t t' : Th} {o : Op} (h : OkOp win t o) (hw : t.wait.length ≤ t'.wait.length) : OkOp win t' o :=
  ⟨h.regs, fun i g hg => ⟨(h.kept i g hg).1, by have := (h.kept i g hg).2; omega⟩, h.mono, h.steps, h.now⟩

theorem as_good {m : M} (hg : GoodM m) {k : Nat} {t u : Th} (ht : m.ths[k]? = some t) : GoodM { m with ths := m.ths.set k (t.as u) } :=
  setGood hg rfl (fun t0 h0 => by rw [ht] at h0; obtain rfl := Option.some.inj h0; rfl)

theorem ok_step {s : SM} (h : OkS s) {n : Int} {o : Op} (hgo : s.guesses n = some o) : OkS (s.step n o).1 := by
  obtain ⟨k, rfl, ho⟩ := guesses_get hgo
  obtain ⟨t, ht, hop, h16, hw⟩ := h.thread ho
  unfold SM.step
  split
  · exact h
  · rename_i hb
    obtain ⟨t', hx, hr, ⟨l, hl⟩, hrm, hroom, _⟩ := step_shape ht
    have hgood := (step_good h.good (k : Int)).1
    have hm : OkOp s.window t' o := hop.more (by rw [hl]; simp)
    dsimp only
    split
    · rename_i hc
      have hwin : o.2 < s.window := by
        by_cases e : s.window ≤ o.2
        · exact absurd ⟨hc.2, .inl e⟩ hb
        · omega
      have := h.win
      have hnow := hop.now
      unfold SM.set
      simp only [Int.toNat_natCast]
      refine h.upd ho ht hx hgood hroom ⟨hm.regs, hm.kept, hm.mono, hm.steps, ?_⟩ (by omega) (hrm hw)
      rw [wrap_small (by omega)]
      dsimp only
      omega
    · exact h.upd0 ho ht hx hgood hroom hm (by omega) (hrm hw)

theorem ok_flush {s : SM} (h : OkS s) {n : Int} {o : Op} (hgo : s.guesses n = some o) : OkS (s.flush n o).1 := by
  obtain ⟨k, rfl, ho⟩ := guesses_get hgo
  obtain ⟨t, ht, hop, h16, hw⟩ := h.thread ho
  unfold SM.flush
  split
  · exact h
  · rename_i hb
    have hgood := (flush_good h.good (k : Int)).1
    dsimp only
    rcases flush_shape ht with ⟨h1, h2, h3⟩ | ⟨h1, h2, h3, h4⟩
    · rw [if_neg (by rw [h1]; simp), h2]
      exact h
    · rw [if_pos h1]
      unfold SM.set
      simp only [Int.toNat_natCast]
      have hroom := h.room
      have pos : ∀ (i : Nat) (g : Gs), o.1[i]? = some g → 1 ≤ g.kept ∧ g.kept ≤ t.wait.length := by
        intro i g hg
        have hk := hop.kept i g hg
        refine ⟨?_, hk.2⟩
        have hlen : 0 < o.1.length := by have := (List.getElem?_eq_some_iff.1 hg).1; omega
        have h0 : o.1[0]? = some (o.1.headD default) := by
          cases ho1 : o.1 with
          | nil => rw [ho1] at hlen; simp at hlen
          | cons a b => rfl
        have hm := hop.mono 0 i _ g (Nat.zero_le _) h0 hg
        have hk0 := (hop.kept 0 _ h0).1
        have hne : (o.1.headD default).kept ≠ 0 := fun e => hb ⟨hlen, e⟩
        omega
      have dec : ∀ (i : Nat) (g : Gs), o.1[i]? = some g → (less g).kept = g.kept - 1 := by
        intro i g hg
        have := pos i g hg
        unfold less
        exact wrap_small (by omega)
      have back : ∀ (i : Nat) (g' : Gs), (o.1.map less)[i]? = some g' → ∃ g, o.1[i]? = some g ∧ g' = less g := by
        intro i g' hg'
        simp only [List.getElem?_map, Option.map_eq_some_iff] at hg'
        obtain ⟨g, h1, h2⟩ := hg'
        exact ⟨g, h1, h2.symm⟩
      refine h.upd ho ht h2 hgood h4 ⟨?_, ?_, ?_, ?_, ?_⟩ h16 (by simp; omega)
      · intro g' hg'
        obtain ⟨g, hg, rfl⟩ := List.mem_map.1 hg'
        exact hop.regs g hg
      · intro i g' hg'
        obtain ⟨g, hg, rfl⟩ := back i g' hg'
        have h5 := pos i g hg
        rw [dec i g hg]
        simp
        omega
      · intro i j g' h' hij hg' hh'
        obtain ⟨g, hg, rfl⟩ := back i g' hg'
        obtain ⟨h0, hh, rfl⟩ := back j h' hh'
        rw [dec i g hg, dec j h0 hh]
        have := hop.mono i j g h0 hij hg hh
        omega
      · intro i g' hg'
        obtain ⟨g, hg, rfl⟩ := back i g' hg'
        exact hop.steps i g hg
      · simpa using hop.now

theorem ok_guess {s : SM} (h : OkS s) {k : Nat} {o : Op} {t u : Th} (ho : s.op[k]? = some o) (ht : s.x.ths[k]? = some t) (hw : o.2 < s.window) (hu : u.wait = t.wait) (hr : u.regs.length = 16) : OkS (s.guess k o t u) := by
  have hop := h.ops k o t ho ht
  obtain ⟨h16, hroom⟩ := h.regs k t ht
  have hwin := h.win
  have hnow := hop.now
  unfold SM.guess SM.set
  simp only [Int.toNat_natCast]
  rw [put_shape ht (by rw [hu]; exact hroom)]
  have cases' : ∀ (i : Nat) (g : Gs), (o.1 ++ [⟨t.place, t.regs, t.over, t.wait.length, o.2⟩])[i]? = some g → o.1[i]? = some g ∨ (i = o.1.length ∧ g = ⟨t.place, t.regs, t.over, t.wait.length, o.2⟩) := by
    intro i g hg
    rcases Nat.lt_trichotomy i o.1.length with hi | hi | hi
    · rw [List.getElem?_append_left hi] at hg
      exact .inl hg
    · subst hi
      simp at hg
      exact .inr ⟨rfl, hg.symm⟩
    · rw [List.getElem?_append_right (by omega)] at hg
      have := (List.getElem?_eq_some_iff.1 hg).1
      simp at this
      omega
  refine h.upd (t' := t.as u) ho ht rfl (as_good h.good ht) rfl ⟨?_, ?_, ?_, ?_, ?_⟩ hr (by show u.wait.length ≤ _; rw [hu]; exact hroom)
  · intro g hg
    rcases List.mem_append.1 hg with hg | hg
    · exact hop.regs g hg
    · obtain rfl := List.mem_singleton.1 hg
      exact h16
  · intro i g hg
    show 0 ≤ g.kept ∧ g.kept ≤ (u.wait.length : Int)
    rw [hu]
    rcases cases' i g hg with hg | ⟨_, rfl⟩
    · exact hop.kept i g hg
    · dsimp only; omega
  · intro i j g g2 hij hg hg2
    rcases cases' i g hg with hg | ⟨hi, rfl⟩
    · rcases cases' j g2 hg2 with hg2 | ⟨_, rfl⟩
      · exact hop.mono i j g g2 hij hg hg2
      · exact (hop.kept i g hg).2
    · rcases cases' j g2 hg2 with hg2 | ⟨_, rfl⟩
      · have := (List.getElem?_eq_some_iff.1 hg2).1; omega
      · exact Int.le_refl _
  · intro i g hg
    rcases cases' i g hg with hg | ⟨hi, rfl⟩
    · exact hop.steps i g hg
    · dsimp only; omega
  · rw [wrap_small (by omega)]
    simp
    omega

theorem ok_turn {s : SM} (h : OkS s) {n : Int} {o : Op} (hgo : s.guesses n = some o) : OkS (s.turn n o).1 := by
  obtain ⟨k, rfl, ho⟩ := guesses_get hgo
  obtain ⟨t, ht, hop, h16, hw⟩ := h.thread ho
  unfold SM.turn
  dsimp only
  split
  · rename_i hb
    rw [th_nat ht]
    exact ok_guess h ho ht hb.2.2 rfl h16
  · exact h

theorem ok_pass {s : SM} (h : OkS s) {n : Int} {o : Op} (hgo : s.guesses n = some o) : OkS (s.pass n o).1 := by
  obtain ⟨k, rfl, ho⟩ := guesses_get hgo
  obtain ⟨t, ht, hop, h16, hw⟩ := h.thread ho
  unfold SM.pass
  dsimp only
  split
  · rename_i hb
    rw [th_nat ht]
    exact ok_guess h ho ht hb.1.2.2 rfl (by simp [passed, h16])
  · exact h

theorem ok_back {s : SM} (h : OkS s) {n : Int} {o : Op} (hgo : s.guesses n = some o) : OkS (s.back n o).1 := by
  obtain ⟨k, rfl, ho⟩ := guesses_get hgo
  obtain ⟨t, ht, hop, h16, hw⟩ := h.thread ho
  unfold SM.back
  split
  · exact h
  · rename_i hne
    have hlast : o.1[o.1.length - 1]? = some (o.1.getLastD default) := by
      rw [List.getLastD_eq_getLast?, List.getLast?_eq_getElem?]
      have : o.1.length - 1 < o.1.length := by omega
      simp [this]
    have hg := hop.kept _ _ hlast
    have hst := hop.steps _ _ hlast
    have hgr := hop.regs _ (List.mem_of_getElem? hlast)
    dsimp only
    generalize o.1.getLastD default = g at *
    unfold SM.set
    simp only [Int.toNat_natCast]
    rw [th_nat ht, Option.getD_some, put_shape ht (by show (t.wait.take g.kept.toNat).length ≤ _; simp; omega)]
    have drop : ∀ (i : Nat) (g' : Gs), o.1.dropLast[i]? = some g' → o.1[i]? = some g' ∧ i < o.1.length - 1 := by
      intro i g' hg'
      have hi := (List.getElem?_eq_some_iff.1 hg').1
      simp at hi
      rw [List.getElem?_dropLast, if_pos (by omega)] at hg'
      exact ⟨hg', hi⟩
    have hlen : (t.wait.take g.kept.toNat).length = g.kept.toNat := by simp; omega
    refine h.upd (t' := t.as (stoodAt t g)) ho ht rfl (as_good h.good ht) rfl ⟨?_, ?_, ?_, ?_, ?_⟩ hgr (by show (t.wait.take g.kept.toNat).length ≤ _; omega)
    · intro g' hg'
      exact hop.regs g' ((List.dropLast_sublist _).subset hg')
    · intro i g' hg'
      obtain ⟨h1, h2⟩ := drop i g' hg'
      have h3 := hop.mono i _ g' g (by omega) h1 hlast
      have h4 := (hop.kept i g' h1).1
      show 0 ≤ g'.kept ∧ g'.kept ≤ ((t.wait.take g.kept.toNat).length : Int)
      rw [hlen]
      omega
    · intro i j g1 g2 hij h1 h2
      exact hop.mono i j g1 g2 hij (drop i g1 h1).1 (drop j g2 h2).1
    · intro i g' hg'
      exact hop.steps i g' (drop i g' hg').1
    · simp
      omega

theorem ok_do {s : SM} (h : OkS s) (kind n : Int) : OkS (s.doIt kind n).1 := by
  unfold SM.doIt
  cases ho : s.guesses n with
  | none => exact h
  | some o =>
    dsimp only
    split
    · exact ok_step h ho
    split
    · exact ok_flush h ho
    split
    · exact ok_turn h ho
    split
    · exact ok_pass h ho
    split
    · exact ok_back h ho
    · exact h
end Go.Proofs.Ytbfeopakmjcapaa.Sp

/-
  What is seen of whatever is done to a machine that guesses (plain Lean).
-/
namespace Go.Proofs.Ytbfeopakmjcapaa.Sp
open Go.RowKit Go.Proofs.Ytbfeopakmjcapaa.Seq Go.Proofs.Ytbfeopakmjcapaa.Tso

theorem step_no (m : M) (who : Int) (h : (m.step who).2.2 = false) : m.step who = (m, none_, false) := by
  unfold M.step at h ⊢
  cases ht : m.th who with
  | none => rfl
  | some t =>
    rw [ht] at h
    dsimp only at h ⊢
    cases hn : t.next with
    | none => rfl
    | some i =>
      rw [hn] at h
      dsimp only at h ⊢
      cases hd : doIns m who t i with
      | none => rfl
      | some r => rw [hd] at h; cases h
theorem flush_no (m : M) (who : Int) (h : (m.flush who).2.2 = false) : m.flush who = (m, none_, false) := by
  unfold M.flush at h ⊢
  cases ht : m.th who with
  | none => rfl
  | some t =>
    rw [ht] at h
    dsimp only at h ⊢
    cases hw : t.wait with
    | nil => rfl
    | cons e r => rw [hw] at h; cases h

/-- An event comes with what tells of it. -/
theorem doIns_event {m : M} {who : Int} {t t' : Th} {i : Ins} {own : List Int} {ev : List Ev} {k : Leak} (h : doIns m who t i = some (t', own, ev, k)) :
    k.thread = who ∧ ((ev = m.events ∧ k.kind ≠ 5) ∨ (9 ≤ i.k ∧ ∃ e : Ev, ev = m.events ++ [e] ∧ k.kind = 5 ∧ k.what = e.kind ∧ k.n = e.n ∧ e.thread = who)) := by
  unfold doIns at h
  dsimp only at h
  by_cases h7 : i.k = 7
  · rw [if_pos h7] at h
    split at h
    · obtain ⟨_, _, rfl, rfl⟩ := h; exact ⟨rfl, .inl ⟨rfl, by simp⟩⟩
    · obtain ⟨_, _, rfl, rfl⟩ := h; exact ⟨rfl, .inl ⟨rfl, by simp⟩⟩
  rw [if_neg h7] at h
  by_cases h4 : i.k = 4
  · rw [if_pos h4] at h
    obtain ⟨_, _, rfl, rfl⟩ := h; exact ⟨rfl, .inl ⟨rfl, by simp⟩⟩
  rw [if_neg h4] at h
  by_cases h5 : i.k = 5
  · rw [if_pos h5] at h
    split at h
    · obtain ⟨_, _, rfl, rfl⟩ := h; exact ⟨rfl, .inl ⟨rfl, by simp⟩⟩
    · cases h
  rw [if_neg h5] at h
  by_cases h9 : i.k = 9
  · rw [if_pos h9] at h
    split at h
    · cases h
    · obtain ⟨_, _, rfl, rfl⟩ := h; exact ⟨rfl, .inr ⟨by omega, _, rfl, rfl, rfl, rfl, rfl⟩⟩
  rw [if_neg h9] at h
  by_cases h10 : i.k = 10
  · rw [if_pos h10] at h
    split at h
    · cases h
    · obtain ⟨_, _, rfl, rfl⟩ := h; exact ⟨rfl, .inr ⟨by omega, _, rfl, rfl, rfl, rfl, rfl⟩⟩
  rw [if_neg h10] at h
  by_cases h11 : i.k = 11
  · rw [if_pos h11] at h
    obtain ⟨_, _, rfl, rfl⟩ := h; exact ⟨rfl, .inr ⟨by omega, _, rfl, rfl, rfl, rfl, rfl⟩⟩
  rw [if_neg h11] at h
  by_cases h12 : i.k = 12
  · rw [if_pos h12] at h
    obtain ⟨_, _, rfl, rfl⟩ := h; exact ⟨rfl, .inr ⟨by omega, _, rfl, rfl, rfl, rfl, rfl⟩⟩
  rw [if_neg h12] at h
  by_cases h13 : i.k = 13
  · rw [if_pos h13] at h
    obtain ⟨_, _, rfl, rfl⟩ := h; exact ⟨rfl, .inr ⟨by omega, _, rfl, rfl, rfl, rfl, rfl⟩⟩
  rw [if_neg h13] at h
  simp only [Option.some.injEq, Prod.mk.injEq] at h
  obtain ⟨_, _, rfl, rfl⟩ := h
  exact ⟨rfl, .inl ⟨rfl, by simp⟩⟩

theorem step_event (m : M) (who : Int) (h : (m.step who).2.2 = true) : (m.step who).2.1.thread = who ∧ (((m.step who).1.events = m.events ∧ (m.step who).2.1.kind ≠ 5) ∨
    (9 ≤ ((m.next who).getD noneI).k ∧ ∃ e : Ev, (m.step who).1.events = m.events ++ [e] ∧ (m.step who).2.1.kind = 5 ∧ (m.step who).2.1.what = e.kind ∧ (m.step who).2.1.n = e.n ∧ e.thread = who)) := by
  unfold M.next
  unfold M.step at h ⊢
  cases ht : m.th who with
  | none => rw [ht] at h; cases h
  | some t =>
    rw [ht] at h
    dsimp only [Option.bind_some] at h ⊢
    cases hn : t.next with
    | none => rw [hn] at h; cases h
    | some i =>
      rw [hn] at h
      dsimp only at h ⊢
      cases hd : doIns m who t i with
      | none => rw [hd] at h; cases h
      | some r =>
        obtain ⟨t', own, ev, k⟩ := r
        exact doIns_event hd

theorem flush_event (m : M) (who : Int) (h : (m.flush who).2.2 = true) : (m.flush who).2.1.thread = who ∧ (m.flush who).1.events = m.events ∧ (m.flush who).2.1.kind = 4 := by
  unfold M.flush at h ⊢
  cases ht : m.th who with
  | none => rw [ht] at h; cases h
  | some t =>
    rw [ht] at h
    dsimp only at h ⊢
    cases hw : t.wait with
    | nil => rw [hw] at h; cases h
    | cons e r => exact ⟨rfl, rfl, rfl⟩

theorem put_events (m : M) (who : Int) (u : Th) : (m.put who u).events = m.events ∧ (m.put who u).mem = m.mem ∧ (m.put who u).own = m.own ∧ (m.put who u).room = m.room := by
  unfold M.put
  split
  · exact ⟨rfl, rfl, rfl, rfl⟩
  · split <;> exact ⟨rfl, rfl, rfl, rfl⟩

/-- What whatever is done leaves seen. -/
structure Seen (s : SM) (n : Int) (r : SM × Leak × Bool) : Prop where
  no : r.2.2 = false → r.2.1 = none_ ∧ r.1 = s
  yes : r.2.2 = true → r.2.1.thread = n
  open_ : 0 < s.count n → r.1.x.events = s.x.events ∧ r.2.1.kind ≠ 5
  event : r.1.x.events = s.x.events ∨ ∃ e : Ev, r.1.x.events = s.x.events ++ [e] ∧ r.2.1.kind = 5 ∧ r.2.1.what = e.kind ∧ r.2.1.n = e.n

theorem seen_none (s : SM) (n : Int) : Seen s n (s, none_, false) := ⟨fun _ => ⟨rfl, rfl⟩, fun h => (by cases h), fun _ => ⟨rfl, by simp [none_]⟩, .inl rfl⟩

theorem seen_step (s : SM) (n : Int) (o : Op) (ho : s.guesses n = some o) : Seen s n (s.step n o) := by
  have hc : s.count n = o.1.length := by unfold SM.count; rw [ho]
  unfold SM.step
  split
  · exact seen_none s n
  · rename_i hb
    dsimp only
    cases hr : (s.x.step n).2.2 with
    | false =>
      have e := step_no _ _ hr
      rw [e]
      simp only [Bool.false_eq_true, false_and, if_false]
      exact seen_none s n
    | true =>
      obtain ⟨h1, h2⟩ := step_event _ _ hr
      have hx : ∀ c : Prop, [Decidable c] → (if c then s.set n (o.1, wrap64 (o.2 + 1)) (s.x.step n).1 else { s with x := (s.x.step n).1 }).x = (s.x.step n).1 := by
        intro c _
        split <;> rfl
      refine ⟨fun h => (by cases h), fun _ => h1, fun hop => ?_, ?_⟩
      · rw [hx]
        rw [hc] at hop
        rcases h2 with h2 | ⟨h9, _⟩
        · exact h2
        · exact absurd ⟨hop, .inr (by omega)⟩ hb
      · rw [hx]
        rcases h2 with h2 | ⟨_, e, h3, h4, h5, h6, _⟩
        · exact .inl h2.1
        · exact .inr ⟨e, h3, h4, h5, h6⟩

theorem seen_flush (s : SM) (n : Int) (o : Op) : Seen s n (s.flush n o) := by
  unfold SM.flush
  split
  · exact seen_none s n
  · dsimp only
    cases hr : (s.x.flush n).2.2 with
    | false =>
      have e := flush_no _ _ hr
      rw [e]
      exact seen_none s n
    | true =>
      obtain ⟨h1, h2, h3⟩ := flush_event _ _ hr
      rw [if_pos rfl]
      exact ⟨fun h => (by cases h), fun _ => h1, fun _ => ⟨h2, by show (s.x.flush n).2.1.kind ≠ 5; omega⟩, .inl h2⟩

theorem seen_guess (s : SM) (n : Int) (o : Op) (t u : Th) (k : Leak) (h1 : k.thread = n) (h2 : k.kind ≠ 5) : Seen s n (s.guess n o t u, k, true) :=
  ⟨fun h => (by cases h), fun _ => h1, fun _ => ⟨(put_events _ _ _).1, h2⟩, .inl (put_events _ _ _).1⟩

theorem seen_do (s : SM) (kind n : Int) : Seen s n (s.doIt kind n) := by
  unfold SM.doIt
  cases ho : s.guesses n with
  | none => exact seen_none s n
  | some o =>
    dsimp only
    split
    · exact seen_step s n o ho
    split
    · exact seen_flush s n o
    split
    · unfold SM.turn
      dsimp only
      split
      · exact seen_guess _ _ _ _ _ _ rfl (by simp)
      · exact seen_none s n
    split
    · unfold SM.pass
      dsimp only
      split
      · exact seen_guess _ _ _ _ _ _ rfl (by simp)
      · exact seen_none s n
    split
    · unfold SM.back
      split
      · exact seen_none s n
      · exact ⟨fun h => (by cases h), fun _ => rfl, fun _ => ⟨(put_events _ _ _).1, by simp⟩, .inl (put_events _ _ _).1⟩
    · exact seen_none s n

theorem count_le {s : SM} (h : OkS s) (n : Int) : (s.count n : Int) ≤ s.window := by
  unfold SM.count
  cases hgo : s.guesses n with
  | none => have := h.win; simp; omega
  | some o =>
    obtain ⟨k, rfl, ho⟩ := guesses_get hgo
    obtain ⟨t, ht, hop, _⟩ := h.thread ho
    have := hop.now
    dsimp only
    omega
theorem do_window (s : SM) (kind n : Int) : (s.doIt kind n).1.window = s.window := by
  unfold SM.doIt
  cases ho : s.guesses n with
  | none => rfl
  | some o =>
    dsimp only
    split
    · unfold SM.step; split; rfl; dsimp only; split <;> rfl
    split
    · unfold SM.flush; split; rfl; dsimp only; split <;> rfl
    split
    · unfold SM.turn; dsimp only; split <;> rfl
    split
    · unfold SM.pass; dsimp only; split <;> rfl
    split
    · unfold SM.back; split <;> rfl
    · rfl
end Go.Proofs.Ytbfeopakmjcapaa.Sp

/-
  What of a machine's sizes is kept, whatever is done (plain Lean).
-/
namespace Go.Proofs.Ytbfeopakmjcapaa.Sp
open Go.RowKit Go.Proofs.Ytbfeopakmjcapaa.Seq Go.Proofs.Ytbfeopakmjcapaa.Tso

theorem put_threads (m : M) (who : Int) (u : Th) : (m.put who u).ths.length = m.ths.length := by
  unfold M.put
  split
  · rfl
  · split <;> simp
theorem step_threads (m : M) (who : Int) : (m.step who).1.ths.length = m.ths.length := by
  unfold M.step
  split
  · rfl
  · split
    · rfl
    · split
      · rfl
      · simp
theorem flush_threads (m : M) (who : Int) : (m.flush who).1.ths.length = m.ths.length := by
  unfold M.flush
  split
  · rfl
  · split
    · rfl
    · simp

theorem guess_x (s : SM) (n : Int) (o : Op) (t u : Th) : (s.guess n o t u).x = s.x.put n u := rfl
/-- The words of memory, and the threads, are as many as ahead. -/
theorem do_mem (s : SM) (kind n : Int) : (s.doIt kind n).1.x.mem.length = s.x.mem.length ∧ (s.doIt kind n).1.op.length = s.op.length ∧ (s.doIt kind n).1.x.ths.length = s.x.ths.length := by
  unfold SM.doIt
  cases ho : s.guesses n with
  | none => exact ⟨rfl, rfl, rfl⟩
  | some o =>
    dsimp only
    split
    · unfold SM.step
      split
      · exact ⟨rfl, rfl, rfl⟩
      · dsimp only
        split
        · exact ⟨by show (s.x.step n).1.mem.length = _; rw [step_mem], by simp [SM.set], step_threads _ _⟩
        · exact ⟨by show (s.x.step n).1.mem.length = _; rw [step_mem], rfl, step_threads _ _⟩
    split
    · unfold SM.flush
      split
      · exact ⟨rfl, rfl, rfl⟩
      · dsimp only
        split
        · exact ⟨flush_len _ _, by simp [SM.set], flush_threads _ _⟩
        · exact ⟨flush_len _ _, rfl, flush_threads _ _⟩
    split
    · unfold SM.turn
      dsimp only
      split
      · exact ⟨by rw [guess_x, (put_events _ _ _).2.1], by simp [SM.guess, SM.set], put_threads _ _ _⟩
      · exact ⟨rfl, rfl, rfl⟩
    split
    · unfold SM.pass
      dsimp only
      split
      · exact ⟨by rw [guess_x, (put_events _ _ _).2.1], by simp [SM.guess, SM.set], put_threads _ _ _⟩
      · exact ⟨rfl, rfl, rfl⟩
    split
    · unfold SM.back
      split
      · exact ⟨rfl, rfl, rfl⟩
      · exact ⟨by show (s.x.put n _).mem.length = _; rw [(put_events _ _ _).2.1], by simp [SM.set], put_threads _ _ _⟩
    · exact ⟨rfl, rfl, rfl⟩
theorem do_events (s : SM) (kind n : Int) : s.x.events.length ≤ (s.doIt kind n).1.x.events.length ∧ (s.doIt kind n).1.x.events.length ≤ s.x.events.length + 1 := by
  rcases (seen_do s kind n).event with h | ⟨e, h, _⟩
  · rw [h]; omega
  · rw [h]; simp
/-- The sizes of a machine that a law plays with: so many events at most. -/
structure Fits (s : SM) (e : Nat) : Prop where
  ok : OkS s
  mem : s.x.mem.length ≤ 100000
  ev : s.x.events.length ≤ e
theorem Fits.doIt {s : SM} {e : Nat} (h : Fits s e) (kind n : Int) : Fits (s.doIt kind n).1 (e + 1) :=
  ⟨ok_do h.ok kind n, by rw [(do_mem s kind n).1]; exact h.mem, by have := (do_events s kind n).2; have := h.ev; omega⟩
theorem Fits.mono {s : SM} {e e2 : Nat} (h : Fits s e) (he : e ≤ e2) : Fits s e2 := ⟨h.ok, h.mem, Nat.le_trans h.ev he⟩
theorem Fits.room {s : SM} {e : Nat} (h : Fits s e) (he : e ≤ 100000) : evRoom s.x := by
  have := h.ev
  unfold evRoom
  omega
end Go.Proofs.Ytbfeopakmjcapaa.Sp

/-
  What a thread guessed, and took back, was not (plain Lean).
-/
namespace Go.Proofs.Ytbfeopakmjcapaa.Sp
open Go.RowKit Go.Proofs.Ytbfeopakmjcapaa.Seq Go.Proofs.Ytbfeopakmjcapaa.Tso

theorem op_same {s : SM} (h : OkS s) {k : Nat} {o : Op} (ho : s.op[k]? = some o) : k < s.op.length ∧ k < s.x.ths.length := by
  have := (List.getElem?_eq_some_iff.1 ho).1
  have h2 := h.len
  omega

/-- A guess more, cell by cell. -/
theorem guess_shape {s : SM} (h : OkS s) {k : Nat} {o : Op} {t u : Th} (ho : s.op[k]? = some o) (ht : s.x.ths[k]? = some t) (hu : u.wait = t.wait) :
    (s.guess k o t u).op[k]? = some (o.1 ++ [⟨t.place, t.regs, t.over, t.wait.length, o.2⟩], wrap64 (o.2 + 1)) ∧ (s.guess k o t u).x.ths[k]? = some (t.as u) ∧ (s.guess k o t u).x.mem = s.x.mem ∧ (s.guess k o t u).x.events = s.x.events := by
  obtain ⟨h16, hroom⟩ := h.regs k t ht
  obtain ⟨l1, l2⟩ := op_same h ho
  unfold SM.guess SM.set
  simp only [Int.toNat_natCast]
  rw [put_shape ht (by rw [hu]; exact hroom)]
  simp [l1, l2]

theorem last_get {l : List Gs} (h : l ≠ []) : l[l.length - 1]? = some (l.getLastD default) := by
  rw [List.getLastD_eq_getLast?, List.getLast?_eq_getElem?]
  have : 0 < l.length := by cases l with | nil => exact absurd rfl h | cons a b => simp
  have : l.length - 1 < l.length := by omega
  simp [this]

/-- The last guess taken back, cell by cell. -/
theorem back_shape {s : SM} (h : OkS s) {k : Nat} {o : Op} {t : Th} (ho : s.op[k]? = some o) (ht : s.x.ths[k]? = some t) (hne : o.1 ≠ []) :
    (s.back k o).2.2 = true ∧ (s.back k o).1.op[k]? = some (o.1.dropLast, (o.1.getLastD default).steps) ∧ (s.back k o).1.x.ths[k]? = some (t.as (stoodAt t (o.1.getLastD default))) ∧ (s.back k o).1.x.mem = s.x.mem ∧ (s.back k o).1.x.events = s.x.events := by
  have hop := h.ops k o t ho ht
  obtain ⟨h16, hroom⟩ := h.regs k t ht
  obtain ⟨l1, l2⟩ := op_same h ho
  have hl : ¬ o.1.length = 0 := by intro e; exact hne (List.eq_nil_of_length_eq_zero e)
  have hg := hop.kept _ _ (last_get hne)
  unfold SM.back
  rw [if_neg hl]
  dsimp only
  generalize o.1.getLastD default = g at *
  unfold SM.set
  simp only [Int.toNat_natCast]
  rw [th_nat ht, Option.getD_some, put_shape ht (by show (t.wait.take g.kept.toNat).length ≤ _; simp; omega)]
  simp [l1, l2]

/-- A guess of thread k is open that began at g0, when w0 waited; memory and events have not changed since. -/
structure InG (s : SM) (k : Nat) (g0 : Gs) (w0 : List (Int × Int)) (mem : List Int) (ev : List Ev) : Prop where
  go : ∃ r st t, s.op[k]? = some (g0 :: r, st) ∧ s.x.ths[k]? = some t ∧ w0 <+: t.wait
  kept : g0.kept = w0.length
  mem : s.x.mem = mem
  ev : s.x.events = ev
/-- It was taken back. -/
structure OutG (s : SM) (k : Nat) (g0 : Gs) (w0 : List (Int × Int)) (mem : List Int) (ev : List Ev) : Prop where
  go : ∃ st t, s.op[k]? = some ([], st) ∧ s.x.ths[k]? = some t ∧ t.place = g0.place ∧ t.regs = g0.regs ∧ t.wait = w0
  kept : g0.kept = w0.length
  mem : s.x.mem = mem
  ev : s.x.events = ev

variable {s : SM} {k : Nat} {g0 : Gs} {w0 : List (Int × Int)} {mem : List Int} {ev : List Ev}

theorem InG.count (h : InG s k g0 w0 mem ev) : 0 < s.count k := by
  obtain ⟨r, st, t, ho, _⟩ := h.go
  unfold SM.count
  rw [guesses_of ho]
  simp
theorem OutG.count (h : OutG s k g0 w0 mem ev) : s.count k = 0 := by
  obtain ⟨st, t, ho, _⟩ := h.go
  unfold SM.count
  rw [guesses_of ho]
  rfl
theorem count_eq {o : Op} (ho : s.op[k]? = some o) : s.count k = o.1.length := by
  unfold SM.count
  rw [guesses_of ho]

theorem in_guess (hs : OkS s) (h : InG s k g0 w0 mem ev) {o : Op} {t u : Th} (ho : s.op[k]? = some o) (ht : s.x.ths[k]? = some t) (hu : u.wait = t.wait) : InG (s.guess k o t u) k g0 w0 mem ev := by
  obtain ⟨r, st, t', ho', ht', hw⟩ := h.go
  obtain rfl : o = (g0 :: r, st) := Option.some.inj (ho.symm.trans ho')
  obtain rfl : t = t' := Option.some.inj (ht.symm.trans ht')
  obtain ⟨h1, h2, h3, h4⟩ := guess_shape hs ho ht hu
  exact ⟨⟨_, _, _, h1, h2, by show w0 <+: u.wait; rw [hu]; exact hw⟩, h.kept, h3.trans h.mem, h4.trans h.ev⟩

/-- Whatever is done in a guess, but a flush and the last way back, leaves it open. -/
theorem in_do (hs : OkS s) (h : InG s k g0 w0 mem ev) {kind : Int} (h1 : kind ≠ 1) (h4 : kind = 4 → 1 < s.count k) : InG (s.doIt kind k).1 k g0 w0 mem ev := by
  obtain ⟨r, st, t, ho, ht, hw⟩ := h.go
  unfold SM.doIt
  rw [guesses_of ho]
  dsimp only
  rw [if_neg h1]
  have hop := hs.ops k _ t ho ht
  by_cases e0 : kind = 0
  · rw [if_pos e0]
    have hsn := seen_step s k (g0 :: r, st) (guesses_of ho)
    have hev := (hsn.open_ h.count).1
    revert hev
    unfold SM.step
    split
    · intro _; exact h
    · dsimp only
      obtain ⟨t', hx, _, ⟨l, hl⟩, _, _, hm⟩ := step_shape ht
      obtain ⟨l1, l2⟩ := op_same hs ho
      have key : ∀ sx : SM, sx.x = (s.x.step k).1 → (∃ st', sx.op[k]? = some (g0 :: r, st')) → sx.x.events = s.x.events → InG sx k g0 w0 mem ev := by
        intro sx e1 ⟨st', e2⟩ e3
        exact ⟨⟨r, st', t', e2, by rw [e1, hx]; simp [l2], by rw [hl]; exact hw.trans (List.prefix_append _ _)⟩, h.kept, by rw [e1, hm]; exact h.mem, e3.trans h.ev⟩
      split
      · intro hev
        refine key _ rfl ⟨wrap64 (st + 1), ?_⟩ hev
        unfold SM.set
        simp [l1]
      · intro hev
        exact key _ rfl ⟨st, ho⟩ hev
  rw [if_neg e0]
  by_cases e2 : kind = 2
  · rw [if_pos e2]
    unfold SM.turn
    dsimp only
    split
    · rw [th_nat ht]
      exact in_guess hs h ho ht rfl
    · exact h
  rw [if_neg e2]
  by_cases e3 : kind = 3
  · rw [if_pos e3]
    unfold SM.pass
    dsimp only
    split
    · rw [th_nat ht]
      exact in_guess hs h ho ht rfl
    · exact h
  rw [if_neg e3]
  by_cases e4 : kind = 4
  · rw [if_pos e4]
    have hc := h4 e4
    rw [count_eq ho] at hc
    have hr : r ≠ [] := by rintro rfl; simp at hc
    obtain ⟨_, b1, b2, b3, b4⟩ := back_shape hs ho ht (by simp)
    have hlast := last_get (l := g0 :: r) (by simp)
    have hmn := hop.mono 0 _ g0 _ (Nat.zero_le _) rfl hlast
    dsimp only at b1 b2 b3 b4
    rw [List.dropLast_cons_of_ne_nil hr] at b1
    refine ⟨⟨_, _, _, b1, b2, ?_⟩, h.kept, b3.trans h.mem, b4.trans h.ev⟩
    generalize (g0 :: r).getLastD default = g at *
    show w0 <+: t.wait.take g.kept.toNat
    obtain ⟨z, hz⟩ := hw
    have hk := h.kept
    rw [← hz, List.take_append]
    have hle : w0.length ≤ g.kept.toNat := by omega
    rw [List.take_of_length_le hle]
    exact List.prefix_append _ _
  · rw [if_neg e4]
    exact h

theorem in_sure (h : InG s k g0 w0 mem ev) : (s.sure k).place = g0.place ∧ (s.sure k).regs = g0.regs ∧ (s.sure k).wait.length = w0.length := by
  obtain ⟨r, st, t, ho, ht, hw⟩ := h.go
  unfold SM.sure
  rw [guesses_of ho, th_nat ht]
  refine ⟨rfl, rfl, ?_⟩
  show (t.wait.take g0.kept.toNat).length = _
  have h1 := hw.length_le
  have h2 := h.kept
  rw [List.length_take]
  omega

theorem doIt_back {o : Op} (ho : s.op[k]? = some o) : s.doIt 4 k = s.back k o := by
  unfold SM.doIt
  rw [guesses_of ho]
  simp

/-- One way back. -/
theorem back_count (hs : OkS s) (n : Int) : (s.doIt 4 n).1.count n = s.count n - 1 := by
  cases hg : s.guesses n with
  | none => simp [SM.doIt, hg, SM.count]
  | some o =>
    obtain ⟨k, rfl, ho⟩ := guesses_get hg
    obtain ⟨t, ht, _⟩ := hs.thread ho
    rw [doIt_back ho, count_eq ho]
    by_cases hne : o.1 = []
    · have : s.back k o = (s, none_, false) := by unfold SM.back; rw [if_pos (by rw [hne]; rfl)]
      rw [this, count_eq ho, hne]
      rfl
    · obtain ⟨_, b1, _⟩ := back_shape hs ho ht hne
      rw [count_eq b1]
      simp

/-- One way back of what was guessed: open still, or taken back. -/
theorem in_back (hs : OkS s) (h : InG s k g0 w0 mem ev ∨ OutG s k g0 w0 mem ev) : InG (s.doIt 4 k).1 k g0 w0 mem ev ∨ OutG (s.doIt 4 k).1 k g0 w0 mem ev := by
  rcases h with h | h
  · by_cases hc : 1 < s.count k
    · exact .inl (in_do hs h (by decide) (fun _ => hc))
    · right
      obtain ⟨r, st, t, ho, ht, hw⟩ := h.go
      rw [count_eq ho] at hc
      have hr : r = [] := by cases r with | nil => rfl | cons a b => simp at hc
      subst hr
      rw [doIt_back ho]
      obtain ⟨_, b1, b2, b3, b4⟩ := back_shape hs ho ht (by simp)
      refine ⟨⟨_, _, b1, b2, rfl, rfl, ?_⟩, h.kept, b3.trans h.mem, b4.trans h.ev⟩
      show t.wait.take (g0.kept.toNat) = w0
      obtain ⟨z, hz⟩ := hw
      have hk := h.kept
      rw [← hz, List.take_left' (by omega)]
  · right
    obtain ⟨st, t, ho, _⟩ := h.go
    rw [doIt_back ho]
    have : s.back k ([], st) = (s, none_, false) := by unfold SM.back; rfl
    rw [this]
    exact h

/-- So many ways back of one thread. -/
def backs (s : SM) (n : Int) : Nat → SM
  | 0 => s
  | j + 1 => ((backs s n j).doIt 4 n).1
theorem backs_ok (hs : OkS s) (n : Int) : ∀ j, OkS (backs s n j)
  | 0 => hs
  | j + 1 => ok_do (backs_ok hs n j) 4 n
theorem backs_count (hs : OkS s) (n : Int) : ∀ j, (backs s n j).count n = s.count n - j
  | 0 => rfl
  | j + 1 => by
    have := back_count (backs_ok hs n j) n
    have := backs_count hs n j
    show ((backs s n j).doIt 4 n).1.count n = _
    omega
theorem backs_in (hs : OkS s) (h : InG s k g0 w0 mem ev) : ∀ j, InG (backs s k j) k g0 w0 mem ev ∨ OutG (backs s k j) k g0 w0 mem ev
  | 0 => .inl h
  | j + 1 => in_back (backs_ok hs k j) (backs_in hs h j)
/-- All of them, where there may be no more than that. -/
theorem backs_out (hs : OkS s) (h : InG s k g0 w0 mem ev) {j : Nat} (hj : s.window ≤ j) : OutG (backs s k j) k g0 w0 mem ev := by
  rcases backs_in hs h j with h' | h'
  · have h1 := h'.count
    have h2 := backs_count hs k j
    have h3 := count_le hs k
    omega
  · exact h'

/-- What begins a guess where none was open. -/
theorem begin_in (hs : OkS s) {o : Op} {t : Th} (ho : s.op[k]? = some o) (ht : s.x.ths[k]? = some t) (hc : o.1 = []) {kind : Int} (hk : kind = 2 ∨ kind = 3) (his : (s.doIt kind k).2.2 = true) :
    InG (s.doIt kind k).1 k ⟨t.place, t.regs, t.over, t.wait.length, o.2⟩ t.wait s.x.mem s.x.events := by
  have key : ∀ u : Th, u.wait = t.wait → InG (s.guess k o t u) k ⟨t.place, t.regs, t.over, t.wait.length, o.2⟩ t.wait s.x.mem s.x.events := by
    intro u hu
    obtain ⟨h1, h2, h3, h4⟩ := guess_shape hs ho ht hu
    rw [hc] at h1
    exact ⟨⟨[], _, _, h1, h2, by show t.wait <+: u.wait; rw [hu]; exact List.prefix_refl _⟩, rfl, h3, h4⟩
  revert his
  unfold SM.doIt
  rw [guesses_of ho]
  dsimp only
  rcases hk with rfl | rfl
  · rw [if_neg (by decide), if_neg (by decide), if_pos rfl]
    unfold SM.turn
    dsimp only
    split
    · intro _
      rw [th_nat ht]
      exact key _ rfl
    · intro h; cases h
  · rw [if_neg (by decide), if_neg (by decide), if_neg (by decide), if_pos rfl]
    unfold SM.pass
    dsimp only
    split
    · intro _
      rw [th_nat ht]
      exact key _ rfl
    · intro h; cases h
end Go.Proofs.Ytbfeopakmjcapaa.Sp
