/-
  Plain laws of turns: what is tired goes on; a thread without memory and locks does as it does alone; what is still.
-/
import Derived.Test.YtokmdjpaegaojaaSeq2
namespace Go.Proofs.Ytokmdjpaegaojaa.Seq
open Go.RowKit

theorem set_self {α : Type} (l : List α) (i : Nat) (x : α) (h : l[i]? = some x) : l.set i x = l := by
  apply List.ext_getElem?
  intro j
  rw [List.getElem?_set]
  by_cases hij : i = j
  · subst hij; rw [if_pos rfl, h]; have := (List.getElem?_eq_some_iff.1 h).1; simp [this]
  · rw [if_neg hij]

theorem plain_len (mem : List Int) (t : Th) (i : Ins) : (plain mem t i).1.length = mem.length := by
  unfold plain
  dsimp only
  split
  · rfl
  split
  · rfl
  split
  · rfl
  split
  · rfl
  split
  · rfl
  split
  · dsimp only; split <;> simp
  split
  · rfl
  split
  · rfl
  · rfl

theorem go_len (who : Int) : ∀ (n : Nat) (mem : List Int) (own : Int → Option Int) (t : Th), (go who n mem own t).1.length = mem.length
  | 0, mem, own, t => rfl
  | n + 1, mem, own, t => by
    unfold go
    cases event own who t t.next with
    | some r => rfl
    | none => exact (go_len who n _ own _).trans (plain_len mem t t.next)

theorem turn_len (m : M) (who fuel : Int) : (m.turn who fuel).1.mem.length = m.mem.length ∧ (m.turn who fuel).1.ths.length = m.ths.length := by
  unfold M.turn
  split
  · split
    · split
      · exact ⟨rfl, rfl⟩
      · exact ⟨go_len _ _ _ _ _, by simp⟩
    · exact ⟨rfl, rfl⟩
  · exact ⟨rfl, rfl⟩

theorem turn_some (m : M) (k : Nat) (fuel : Int) (t : Th) (ht : m.ths[k]? = some t) (ho : t.over = false) :
    m.turn k fuel = (⟨m.ths.set k (go k fuel.toNat m.mem m.owner t).2.2.1, (go k fuel.toNat m.mem m.owner t).1, (go k fuel.toNat m.mem m.owner t).2.1⟩, (go k fuel.toNat m.mem m.owner t).2.2.2.1, (go k fuel.toNat m.mem m.owner t).2.2.2.2) := by
  have hk := (List.getElem?_eq_some_iff.1 ht).1
  unfold M.turn
  rw [if_pos (by omega)]
  simp [ht, ho]

theorem turn_over (m : M) (k : Nat) (fuel : Int) (t : Th) (ht : m.ths[k]? = some t) (ho : t.over = true) : m.turn k fuel = (m, none_, 2) := by
  have hk := (List.getElem?_eq_some_iff.1 ht).1
  unfold M.turn
  rw [if_pos (by omega)]
  simp [ht, ho]

theorem turn_out (m : M) (who fuel : Int) (h : ¬ (0 ≤ who ∧ who < m.ths.length)) : m.turn who fuel = (m, none_, 2) := by
  unfold M.turn
  rw [if_neg h]

theorem turn_cases (m : M) (who : Int) : (∀ fuel, m.turn who fuel = (m, none_, 2)) ∨ ∃ (k : Nat) (t : Th), who = k ∧ m.ths[k]? = some t ∧ t.over = false := by
  by_cases h : 0 ≤ who ∧ who < m.ths.length
  · obtain ⟨k, rfl⟩ : ∃ k : Nat, who = k := ⟨who.toNat, by omega⟩
    have hk : k < m.ths.length := by omega
    have ht : m.ths[k]? = some m.ths[k] := by simp [hk]
    cases ho : m.ths[k].over with
    | true => exact .inl fun fuel => turn_over m k fuel _ ht ho
    | false => exact .inr ⟨k, _, rfl, ht, ho⟩
  · exact .inl fun fuel => turn_out m who fuel h

theorem plain_over (mem : List Int) (t : Th) (i : Ins) : (plain mem t i).2.over = t.over ∧ (plain mem t i).2.code = t.code := by
  have hs : ∀ n x, (t.step.set n x).over = t.over ∧ (t.step.set n x).code = t.code := fun n x => by unfold Th.set; split <;> exact ⟨rfl, rfl⟩
  unfold plain
  dsimp only
  split
  · exact hs _ _
  split
  · exact hs _ _
  split
  · exact hs _ _
  split
  · dsimp only; split
    · exact hs _ _
    · exact ⟨rfl, rfl⟩
  split
  · exact hs _ _
  split
  · exact ⟨rfl, rfl⟩
  split
  · exact ⟨rfl, rfl⟩
  split
  · dsimp only; split <;> exact ⟨rfl, rfl⟩
  · exact ⟨rfl, rfl⟩

theorem go_tired_over (who : Int) : ∀ (n : Nat) (mem : List Int) (own : Int → Option Int) (t : Th), (go who n mem own t).2.2.2.2 = 3 → (go who n mem own t).2.2.1.over = t.over
  | 0, mem, own, t, _ => rfl
  | n + 1, mem, own, t, h => by
    unfold go at h ⊢
    cases he : event own who t t.next with
    | some r =>
      obtain ⟨o1, t1, e1, x1⟩ := r
      rw [he] at h
      have := event_x own who t t.next _ he
      dsimp only at h this
      omega
    | none =>
      rw [he] at h
      dsimp only at h ⊢
      exact (go_tired_over who n _ own _ h).trans (plain_over mem t t.next).1

/-- What is tired goes on as if it had not been. -/
theorem turn_more (m : M) (who f g : Int) (hf : 0 ≤ f) (hg : 0 ≤ g) (h : (m.turn who f).2.2 = 3) : m.turn who (f + g) = (m.turn who f).1.turn who g := by
  rcases turn_cases m who with h0 | ⟨k, t, rfl, ht, ho⟩
  · rw [h0] at h; cases h
  · have hk := (List.getElem?_eq_some_iff.1 ht).1
    rw [turn_some m k f t ht ho] at h ⊢
    rw [turn_some m k (f + g) t ht ho]
    dsimp only at h
    have h2 := go_tired_over k f.toNat m.mem m.owner t h
    have hm := go_more k g.toNat f.toNat m.mem m.owner t h (fun own t r he => by have := event_x own k t t.next r he; omega)
    rw [turn_some _ k g (go k f.toNat m.mem m.owner t).2.2.1 (by simp [hk]) (h2.trans ho)]
    rw [show (f + g).toNat = f.toNat + g.toNat by omega, hm]
    dsimp only
    rw [List.set_set]

theorem turn_done (m : M) (who f g : Int) (hf : 0 ≤ f) (hg : 0 ≤ g) (h : (m.turn who f).2.2 ≠ 3) : m.turn who (f + g) = m.turn who f := by
  rcases turn_cases m who with h0 | ⟨k, t, rfl, ht, ho⟩
  · rw [h0, h0]
  · rw [turn_some m k f t ht ho] at h ⊢
    rw [turn_some m k (f + g) t ht ho]
    dsimp only at h
    rw [show (f + g).toNat = f.toNat + g.toNat by omega, go_done k g.toNat f.toNat m.mem m.owner t h]

/-- Nothing is told and nothing changes, without fuel. -/
theorem turn_still (m : M) (who f : Int) (h : f ≤ 0 ∨ (m.turn who f).2.2 = 2) : (m.turn who f).1 = m ∧ (m.turn who f).2.1 = none_ ∧ ((m.turn who f).2.2 = 2 ∨ (m.turn who f).2.2 = 3) := by
  rcases turn_cases m who with h0 | ⟨k, t, rfl, ht, ho⟩
  · rw [h0]; exact ⟨rfl, rfl, .inl rfl⟩
  · rw [turn_some m k f t ht ho] at h ⊢
    dsimp only at h ⊢
    rcases h with h | h
    · have e : go (k : Int) f.toNat m.mem m.owner t = (m.mem, m.owner, t, none_, 3) := by rw [show f.toNat = 0 by omega]; rfl
      rw [e]
      dsimp only
      exact ⟨by rw [set_self _ _ _ ht], rfl, .inr rfl⟩
    · exfalso
      have key : ∀ (n : Nat) (mem : List Int) (own : Int → Option Int) (t : Th), (go (k : Int) n mem own t).2.2.2.2 ≠ 2 := by
        intro n
        induction n with
        | zero => intro mem own t; exact (by decide : (3 : Int) ≠ 2)
        | succ n ih =>
          intro mem own t
          unfold go
          cases he : event own k t t.next with
          | some r =>
            obtain ⟨o1, t1, e1, x1⟩ := r
            have := event_x own k t t.next _ he
            dsimp only at this ⊢
            omega
          | none => exact ih _ own _
      exact key _ _ _ _ h

/-- One thread's turn changes no other one. -/
theorem turn_other (m : M) (who f : Int) (j : Nat) (h : (j : Int) ≠ who) : (m.turn who f).1.ths[j]? = m.ths[j]? := by
  rcases turn_cases m who with h0 | ⟨k, t, rfl, ht, ho⟩
  · rw [h0]
  · rw [turn_some m k f t ht ho]
    exact List.getElem?_set_ne (by omega)

theorem place_nat (m : M) (j : Nat) : m.place j = match m.ths[j]? with | some t => t.at_ | none => 0 := by
  unfold M.place M.th
  by_cases h : j < m.ths.length
  · rw [if_pos (by omega)]; simp [h]
  · rw [if_neg (by omega)]; simp [List.getElem?_eq_none (Nat.le_of_not_lt h)]

theorem reg_nat (m : M) (j : Nat) (n : Int) : m.reg j n = match m.ths[j]? with | some t => t.get n | none => 0 := by
  unfold M.reg M.th
  by_cases h : j < m.ths.length
  · rw [if_pos (by omega)]; simp [h]
  · rw [if_neg (by omega)]; simp [List.getElem?_eq_none (Nat.le_of_not_lt h)]

theorem place_other (m : M) (who f : Int) (j : Nat) (h : (j : Int) ≠ who) : (m.turn who f).1.place j = m.place j := by rw [place_nat, place_nat, turn_other m who f j h]
theorem reg_other (m : M) (who f : Int) (j : Nat) (n : Int) (h : (j : Int) ≠ who) : (m.turn who f).1.reg j n = m.reg j n := by rw [reg_nat, reg_nat, turn_other m who f j h]

/-- A code without memory, and without locks. -/
def alone (c : List Ins) : Prop := ∀ i ∈ c, i.k ≠ 4 ∧ i.k ≠ 5 ∧ i.k ≠ 9 ∧ i.k ≠ 10

theorem next_alone (t : Th) (h : alone t.code) : t.next.k ≠ 4 ∧ t.next.k ≠ 5 ∧ t.next.k ≠ 9 ∧ t.next.k ≠ 10 := by
  unfold Th.next
  split
  · rename_i hc
    have hl : t.at_.toNat < t.code.length := by omega
    rw [List.getD_eq_getElem?_getD, List.getElem?_eq_getElem hl]
    exact h _ (List.getElem_mem hl)
  · decide

theorem plain_alone (mem mem2 : List Int) (t : Th) (i : Ins) (h : i.k ≠ 4) : (plain mem t i).2 = (plain mem2 t i).2 := by
  unfold plain
  dsimp only
  simp only [h, if_false]
  repeat' (first | rfl | split)

theorem event_alone (own own2 : Int → Option Int) (who : Int) (t : Th) (i : Ins) (h : i.k ≠ 9 ∧ i.k ≠ 10) :
    (event own who t i = none ∧ event own2 who t i = none) ∨ ∃ t' e x, event own who t i = some (own, t', e, x) ∧ event own2 who t i = some (own2, t', e, x) ∧ t'.code = t.code := by
  obtain ⟨h9, h10⟩ := h
  unfold event
  by_cases h11 : i.k = 11
  · exact .inr ⟨t.step, ⟨0, who, t.step.get i.a⟩, 0, by rw [if_pos h11], by rw [if_pos h11], rfl⟩
  by_cases h12 : i.k = 12
  · exact .inr ⟨{ t with over := true }, ⟨3, who, i.n⟩, 0, by rw [if_neg h11, if_neg h9, if_neg h10, if_pos h12], by rw [if_neg h11, if_neg h9, if_neg h10, if_pos h12], rfl⟩
  by_cases h13 : i.k = 13
  · exact .inr ⟨{ t with over := true }, ⟨4, who, 0⟩, 0, by rw [if_neg h11, if_neg h9, if_neg h10, if_neg h12, if_pos h13], by rw [if_neg h11, if_neg h9, if_neg h10, if_neg h12, if_pos h13], rfl⟩
  · exact .inl ⟨by rw [if_neg h11, if_neg h9, if_neg h10, if_neg h12, if_neg h13], by rw [if_neg h11, if_neg h9, if_neg h10, if_neg h12, if_neg h13]⟩

theorem go_alone (who : Int) : ∀ (n : Nat) (mem mem2 : List Int) (own own2 : Int → Option Int) (t : Th), alone t.code →
    (go who n mem own t).2.2 = (go who n mem2 own2 t).2.2 ∧ alone (go who n mem own t).2.2.1.code
  | 0, mem, mem2, own, own2, t, h => ⟨rfl, h⟩
  | n + 1, mem, mem2, own, own2, t, h => by
    have hn := next_alone t h
    unfold go
    rcases event_alone own own2 who t t.next ⟨hn.2.2.1, hn.2.2.2⟩ with ⟨e1, e2⟩ | ⟨t', e, x, e1, e2, e3⟩
    · rw [e1, e2]
      dsimp only
      rw [plain_alone mem2 mem t t.next hn.1]
      exact go_alone who n _ _ own own2 _ (by rw [(plain_over mem t t.next).2]; exact h)
    · rw [e1, e2]
      exact ⟨rfl, by rw [e3]; exact h⟩

/-- Two runs whose first threads are one, and use no memory and no locks. -/
def Alike (a b : M) : Prop := ∃ t, a.ths[0]? = some t ∧ b.ths[0]? = some t ∧ alone t.code

theorem alike_turn {a b : M} (h : Alike a b) (f : Int) : Alike (a.turn 0 f).1 (b.turn 0 f).1 ∧ (a.turn 0 f).2 = (b.turn 0 f).2 := by
  obtain ⟨t, h1, h2, h3⟩ := h
  have k1 := (List.getElem?_eq_some_iff.1 h1).1
  have k2 := (List.getElem?_eq_some_iff.1 h2).1
  cases ho : t.over with
  | true =>
    have e1 := turn_over a 0 f t h1 ho
    have e2 := turn_over b 0 f t h2 ho
    rw [show ((0 : Nat) : Int) = 0 from rfl] at e1 e2
    rw [e1, e2]
    exact ⟨⟨t, h1, h2, h3⟩, rfl⟩
  | false =>
    have e1 := turn_some a 0 f t h1 ho
    have e2 := turn_some b 0 f t h2 ho
    rw [show ((0 : Nat) : Int) = 0 from rfl] at e1 e2
    rw [e1, e2]
    obtain ⟨g1, g2⟩ := go_alone 0 f.toNat a.mem b.mem a.owner b.owner t h3
    dsimp only
    rw [← g1]
    exact ⟨⟨_, by simp [k1], by simp [k2], g2⟩, rfl⟩

theorem alike_other {a b : M} (h : Alike a b) (who f : Int) (hw : who ≠ 0) : Alike (a.turn who f).1 b := by
  obtain ⟨t, h1, h2, h3⟩ := h
  exact ⟨t, by rw [turn_other a who f 0 (by omega)]; exact h1, h2, h3⟩

theorem alike_place {a b : M} (h : Alike a b) : a.place 0 = b.place 0 := by
  obtain ⟨t, h1, h2, _⟩ := h
  have e1 := place_nat a 0
  have e2 := place_nat b 0
  rw [show ((0 : Nat) : Int) = 0 from rfl] at e1 e2
  rw [e1, e2, h1, h2]
end Go.Proofs.Ytokmdjpaegaojaa.Seq
