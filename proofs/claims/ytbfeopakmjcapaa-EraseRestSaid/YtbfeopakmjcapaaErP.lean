/-
  What of a script is done, and what is left without guesses (plain Lean).
-/
import Derived.Test.YtbfeopakmjcapaaErN
set_option linter.unusedVariables false
set_option linter.unusedSimpArgs false
set_option maxHeartbeats 4000000
set_option maxRecDepth 8000
namespace Go.Proofs.Ytbfeopakmjcapaa.Sp
open Go.RowKit Go.Proofs.Ytbfeopakmjcapaa.Seq Go.Proofs.Ytbfeopakmjcapaa.Tso

/-- No guess is open. -/
def NoG (s : SM) : Prop := ∀ o ∈ s.op, o.1 = []
theorem noG_start (codes : List (List Ins)) (words : Nat) (mem : List Int) (locks room : Nat) (window : Int) : NoG (startS codes words mem locks room window) := by
  intro o ho
  unfold startS at ho
  rw [(List.mem_replicate.1 ho).2]
theorem NoG.set {s : SM} (h : NoG s) (n : Int) (st : Int) (x : M) : NoG (s.set n ([], st) x) := by
  intro o ho
  unfold SM.set at ho
  rcases List.mem_or_eq_of_mem_set ho with h' | h'
  · exact h o h'
  · rw [h']
theorem noG_do {s : SM} (h : NoG s) {kind : Int} (n : Int) (h2 : kind ≠ 2) (h3 : kind ≠ 3) : NoG (s.doIt kind n).1 ∧ ((s.doIt kind n).2.2 = true → kind = 0 ∨ kind = 1) ∧ s.count n = 0 := by
  unfold SM.doIt SM.count
  cases hg : s.guesses n with
  | none => exact ⟨h, fun e => (by cases e), rfl⟩
  | some o =>
    obtain ⟨k, rfl, ho⟩ := guesses_get hg
    have ho1 := h o (List.mem_of_getElem? ho)
    obtain ⟨l, st⟩ := o
    dsimp only at ho1
    subst ho1
    dsimp only
    refine ⟨?_, ?_, rfl⟩
    · by_cases e0 : kind = 0
      · rw [if_pos e0]
        unfold SM.step
        simp only [List.length_nil, Nat.lt_irrefl, false_and, and_false, if_false]
        exact h
      rw [if_neg e0]
      by_cases e1 : kind = 1
      · rw [if_pos e1]
        unfold SM.flush
        simp only [List.length_nil, Nat.lt_irrefl, false_and, if_false, List.map_nil]
        split
        · exact h.set _ _ _
        · exact h
      rw [if_neg e1, if_neg h2, if_neg h3]
      split
      · unfold SM.back
        rw [if_pos (show (([], st) : Op).1.length = 0 from rfl)]
        exact h
      · exact h
    · intro his
      by_cases e0 : kind = 0
      · exact .inl e0
      by_cases e1 : kind = 1
      · exact .inr e1
      rw [if_neg e0, if_neg e1, if_neg h2, if_neg h3] at his
      split at his
      · unfold SM.back at his
        rw [if_pos (show (([], st) : Op).1.length = 0 from rfl)] at his
        cases his
      · cases his
theorem runs_none : ∀ (l : List (Int × Int)) {s : SM}, NoG s → (∀ d ∈ l, d.1 ≠ 2 ∧ d.1 ≠ 3) → ∀ x ∈ (runs s l).2, (x.1 = 0 ∨ x.1 = 1) ∧ x.2.2 = false
  | [], _, _, _ => fun x hx => (by cases hx)
  | d :: l, s, h, hl => by
    obtain ⟨h1, h2, h3⟩ := noG_do h d.2 (hl d (by simp)).1 (hl d (by simp)).2
    intro x hx
    simp only [runs, List.mem_append] at hx
    rcases hx with hx | hx
    · cases his : (s.doIt d.1 d.2).2.2 with
      | false => rw [his] at hx; cases hx
      | true =>
        rw [his] at hx
        simp only [cond_true, List.mem_singleton] at hx
        subst hx
        refine ⟨h2 his, ?_⟩
        dsimp only
        rw [h3]
        rfl
    · exact runs_none l h1 (fun e he => hl e (by simp [he])) x hx
theorem bare_none {s : SM} (h : NoG s) {l : List (Int × Int)} (hl : ∀ d ∈ l, d.1 ≠ 2 ∧ d.1 ≠ 3) : bareD (runs s l).2 = (runs s l).2.map projD := by
  unfold bareD
  congr 1
  rw [List.filter_eq_self]
  intro x hx
  obtain ⟨h1, h2⟩ := runs_none l h hl x hx
  unfold keepD
  rcases h1 with h1 | h1 <;> simp [h1, h2]

theorem bare_prefix {a b : List (Int × Int × Bool)} (h : a <+: b) : bareD a <+: bareD b := by
  unfold bareD
  obtain ⟨c, rfl⟩ := h
  rw [List.filter_append, List.map_append]
  exact List.prefix_append _ _
theorem proj_prefix {a b : List (Int × Int × Bool)} (h : a <+: b) : a.map projD <+: b.map projD := by
  obtain ⟨c, rfl⟩ := h
  rw [List.map_append]
  exact List.prefix_append _ _
theorem bare_le (a : List (Int × Int × Bool)) : (bareD a).length ≤ (a.map projD).length := by
  rw [List.length_map]
  exact bareD_len a

/-- What can be done of what can be done is all of it. -/
theorem runs_again : ∀ (l : List (Int × Int)) (s : SM), runs s ((runs s l).2.map projD) = runs s l
  | [], _ => rfl
  | d :: l, s => by
    have ih := runs_again l (s.doIt d.1 d.2).1
    cases his : (s.doIt d.1 d.2).2.2 with
    | false =>
      have hs := ((seen_do s d.1 d.2).no his).2
      simp only [runs, his, cond_false, List.nil_append]
      rw [hs] at ih ⊢
      exact ih
    | true =>
      simp only [runs, his, cond_true, List.cons_append, List.nil_append, List.map_cons, projD]
      have ih' : runs (s.doIt d.1 d.2).1 (List.map projD (runs (s.doIt d.1 d.2).1 l).2) = runs (s.doIt d.1 d.2).1 l := ih
      rw [ih']
end Go.Proofs.Ytbfeopakmjcapaa.Sp
