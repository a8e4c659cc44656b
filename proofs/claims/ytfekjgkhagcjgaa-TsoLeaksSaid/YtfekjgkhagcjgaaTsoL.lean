/-
  Plain laws of chapter 28's machine: steps leave memory, a flush writes one word, what is seen of a step.
-/
import Derived.Test.YtfekjgkhagcjgaaTsoM
namespace Go.Proofs.Ytfekjgkhagcjgaa.Tso
open Go.RowKit Go.Proofs.Ytfekjgkhagcjgaa.Seq

theorem step_mem (m : M) (who : Int) : (m.step who).1.mem = m.mem := by
  unfold M.step
  split
  · rfl
  · split
    · rfl
    · split <;> rfl

theorem put_length (mem : List Int) (e : Int × Int) : (put mem e).length = mem.length := by
  unfold put; split <;> simp

theorem flush_len (m : M) (who : Int) : (m.flush who).1.mem.length = m.mem.length := by
  unfold M.flush
  split
  · rfl
  · split
    · rfl
    · exact put_length _ _

/-- A flush changes one word alone: that of the oldest store that waits. -/
theorem flush_word (m : M) (who : Int) (j : Nat) (h : (m.flush who).1.mem.getD j 0 ≠ m.mem.getD j 0) :
    ∃ t e r, m.th who = some t ∧ t.wait = e :: r ∧ (m.flush who).2.1 = ⟨4, who, 0, e.1⟩ ∧ (j : Int) = e.1 ∧ (m.flush who).1.mem.getD j 0 = e.2 := by
  unfold M.flush at h ⊢
  cases ht : m.th who with
  | none => rw [ht] at h; exact absurd rfl h
  | some t =>
    rw [ht] at h
    dsimp only at h ⊢
    cases hw : t.wait with
    | nil => rw [hw] at h; exact absurd rfl h
    | cons e r =>
      rw [hw] at h
      dsimp only at h ⊢
      refine ⟨t, e, r, rfl, hw, rfl, ?_⟩
      unfold put at h ⊢
      by_cases hc : 0 ≤ e.1 ∧ e.1 < m.mem.length
      · rw [if_pos hc] at h ⊢
        by_cases hj : e.1.toNat = j
        · subst hj
          refine ⟨by omega, ?_⟩
          have hl : e.1.toNat < m.mem.length := by omega
          simp [List.getD, hl]
        · rw [List.getD_eq_getElem?_getD, List.getElem?_set_ne hj, ← List.getD_eq_getElem?_getD] at h
          exact absurd rfl h
      · rw [if_neg hc] at h
        exact absurd rfl h

/-- What is seen of a step is what its instruction, and its registers, tell. -/
theorem step_seen (m : M) (who : Int) (h : (m.step who).2.2 = true) : ∃ t i, m.th who = some t ∧ t.next = some i ∧ (m.step who).2.1.thread = who ∧
    (i.k = 4 → (m.step who).2.1.kind = 1 ∧ (m.step who).2.1.n = t.word i) ∧ (i.k = 5 → (m.step who).2.1.kind = 2 ∧ (m.step who).2.1.n = t.word i) ∧
    (i.k = 7 → (m.step who).2.1.kind = 3 ∧ ((m.step who).2.1.n = 1 ↔ t.reg i.a = 0)) ∧ ((i.k = 9 ∨ i.k = 10 ∨ i.k = 11 ∨ i.k = 12 ∨ i.k = 13) → (m.step who).2.1.kind = 5) ∧
    ((i.k ≠ 4 ∧ i.k ≠ 5 ∧ i.k ≠ 7 ∧ i.k ≠ 9 ∧ i.k ≠ 10 ∧ i.k ≠ 11 ∧ i.k ≠ 12 ∧ i.k ≠ 13) → (m.step who).2.1.kind = 0) := by
  unfold M.step at h ⊢
  cases ht : m.th who with
  | none => rw [ht] at h; cases h
  | some t =>
    rw [ht] at h
    dsimp only at h ⊢
    cases hn : t.next with
    | none => rw [hn] at h; cases h
    | some i =>
      rw [hn] at h
      dsimp only at h ⊢
      cases hd : doIns m who t i with
      | none => rw [hd] at h; cases h
      | some r =>
        obtain ⟨t', own, ev, k⟩ := r
        refine ⟨t, i, rfl, hn, ?_⟩
        dsimp only
        unfold doIns at hd
        by_cases h7 : i.k = 7
        · rw [if_pos h7] at hd
          split at hd <;> rename_i hz <;> obtain ⟨_, _, _, rfl⟩ := hd <;> simp [h7, hz]
        rw [if_neg h7] at hd
        by_cases h4 : i.k = 4
        · rw [if_pos h4] at hd
          obtain ⟨_, _, _, rfl⟩ := hd
          simp [h4]
        rw [if_neg h4] at hd
        by_cases h5 : i.k = 5
        · rw [if_pos h5] at hd
          split at hd
          · obtain ⟨_, _, _, rfl⟩ := hd
            simp [h5]
          · cases hd
        rw [if_neg h5] at hd
        by_cases h9 : i.k = 9
        · rw [if_pos h9] at hd
          split at hd
          · cases hd
          · obtain ⟨_, _, _, rfl⟩ := hd
            simp [h9]
        rw [if_neg h9] at hd
        by_cases h10 : i.k = 10
        · rw [if_pos h10] at hd
          split at hd
          · cases hd
          · obtain ⟨_, _, _, rfl⟩ := hd
            simp [h10]
        rw [if_neg h10] at hd
        by_cases h11 : i.k = 11
        · rw [if_pos h11] at hd
          obtain ⟨_, _, _, rfl⟩ := hd
          simp [h11]
        rw [if_neg h11] at hd
        by_cases h12 : i.k = 12
        · rw [if_pos h12] at hd
          obtain ⟨_, _, _, rfl⟩ := hd
          simp [h12]
        rw [if_neg h12] at hd
        by_cases h13 : i.k = 13
        · rw [if_pos h13] at hd
          obtain ⟨_, _, _, rfl⟩ := hd
          simp [h13]
        rw [if_neg h13] at hd
        obtain ⟨_, _, _, rfl⟩ := hd
        simp [h4, h5, h7, h9, h10, h11, h12, h13]
end Go.Proofs.Ytfekjgkhagcjgaa.Tso
