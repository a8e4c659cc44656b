/-
  Plain facts that the walk of the reference's Words asks for.
-/
import Derived.Test.YtfiebpcambdbaaaDoorRefM
set_option linter.unusedVariables false
set_option linter.unusedSimpArgs false
set_option maxHeartbeats 4000000
set_option maxRecDepth 8000
namespace Go.Proofs.YtfiebpcambdbaaaDoor.Lex
theorem drop_cons {s : B} {i : Nat} (h : i < s.length) : s.drop i = s[i] :: s.drop (i + 1) := List.drop_eq_getElem_cons h
theorem dropWhile_to (p : UInt8 → Bool) (s : B) : ∀ (d i k : Nat), k = i + d → k ≤ s.length → (∀ j, i ≤ j → j < k → ∀ h : j < s.length, p s[j] = true) → (k = s.length ∨ ∃ h : k < s.length, p s[k] = false) → (s.drop i).dropWhile p = s.drop k
  | 0, i, k, hk, hl, _, he => by
    obtain rfl : k = i := by omega
    rcases he with h | ⟨h, hp⟩
    · rw [List.drop_eq_nil_of_le (by omega)]; rfl
    · rw [drop_cons h, List.dropWhile_cons, if_neg (by simp [hp])]
  | d + 1, i, k, hk, hl, hall, he => by
    have hi : i < s.length := by omega
    rw [drop_cons hi, List.dropWhile_cons, if_pos (hall i (Nat.le_refl _) (by omega) hi)]
    exact dropWhile_to p s d (i + 1) k (by omega) hl (fun j h1 h2 h => hall j (by omega) h2 h) he
theorem takeWhile_to (p : UInt8 → Bool) (s : B) : ∀ (d i k : Nat), k = i + d → k ≤ s.length → (∀ j, i ≤ j → j < k → ∀ h : j < s.length, p s[j] = true) → (k = s.length ∨ ∃ h : k < s.length, p s[k] = false) → ((s.drop i).takeWhile p).length = d ∧ (s.drop i).takeWhile p = (s.drop i).take d
  | 0, i, k, hk, hl, _, he => by
    obtain rfl : k = i := by omega
    rcases he with h | ⟨h, hp⟩
    · rw [List.drop_eq_nil_of_le (by omega)]; simp
    · rw [drop_cons h, List.takeWhile_cons, if_neg (by simp [hp])]; simp
  | d + 1, i, k, hk, hl, hall, he => by
    have hi : i < s.length := by omega
    have ih := takeWhile_to p s d (i + 1) k (by omega) hl (fun j h1 h2 h => hall j (by omega) h2 h) he
    rw [drop_cons hi, List.takeWhile_cons, if_pos (hall i (Nat.le_refl _) (by omega) hi)]
    exact ⟨by simp [ih.1], by rw [List.take_succ_cons, ih.2]⟩
theorem note_at {s : B} {i : Nat} (h : isNote (s.drop i) = true) : ∃ (h1 : i + 1 < s.length), s[i] = 47 ∧ s[i + 1] = 47 := by
  have h1 : i + 1 < s.length := by
    apply Classical.byContradiction
    intro hn
    have : (s.drop i).length ≤ 1 := by rw [List.length_drop]; omega
    match hd : s.drop i, this with
    | [], _ => rw [hd] at h; simp [isNote] at h
    | [a], _ => rw [hd] at h; simp [isNote, List.isPrefixOf] at h
  refine ⟨h1, ?_⟩
  rw [drop_cons (show i < s.length by omega), drop_cons h1] at h
  simp only [isNote, List.isPrefixOf, Bool.and_true, Bool.and_eq_true, beq_iff_eq] at h
  exact ⟨h.1.symm, h.2.symm⟩
theorem note_not {s : B} {i : Nat} (hi : i < s.length) (h : isNote (s.drop i) = false) : s[i] ≠ 47 ∨ (s[i] = 47 ∧ i + 1 = s.length) ∨ (s[i] = 47 ∧ ∃ h1 : i + 1 < s.length, s[i + 1] ≠ 47) := by
  by_cases h1 : s[i] = 47
  · by_cases h2 : i + 1 = s.length
    · exact .inr (.inl ⟨h1, h2⟩)
    · have h3 : i + 1 < s.length := by omega
      refine .inr (.inr ⟨h1, h3, fun e => ?_⟩)
      rw [drop_cons hi, drop_cons h3, h1, e] at h
      simp [isNote, List.isPrefixOf] at h
  · exact .inl h1
theorem note_skip {s : B} {i k : Nat} (hik : i ≤ k) (hk : k ≤ s.length) (h : isNote (s.drop i) = true) (hall : ∀ j, i ≤ j → j < k → ∀ h : j < s.length, s[j] ≠ 10) (he : k = s.length ∨ ∃ h : k < s.length, s[k] = 10) : skipB (s.drop i) = skipB (s.drop k) := by
  obtain ⟨h1, h2, _⟩ := note_at h
  have e1 : (s.drop i).dropWhile blankB = s.drop i := by
    rw [drop_cons (show i < s.length by omega), List.dropWhile_cons, h2, if_neg (by decide)]
  have e2 : (s.drop i).dropWhile (fun c => c != 10) = s.drop k := dropWhile_to _ s (k - i) i k (by omega) hk (fun j a b c => by simpa using hall j a b c) (by
    rcases he with h | ⟨h, e⟩
    · exact .inl h
    · exact .inr ⟨h, by simp [e]⟩)
  rw [skipB_note (by rw [e1]; exact h), e1]
  unfold afterNl
  rw [e2]
  rcases he with h | ⟨h, e⟩
  · rw [List.drop_eq_nil_of_le (show s.length ≤ k by omega)]; rfl
  · rw [drop_cons h, e]
    rw [skipB_blank (by decide)]
    rfl
theorem self_skip {s : B} {i : Nat} (hi : i < s.length) (hb : blankB s[i] = false) (h : isNote (s.drop i) = false) : skipB (s.drop i) = s.drop i :=
  skipB_self (fun c r e => by rw [drop_cons hi] at e; cases e; exact hb) h
theorem letter_digit (c : UInt8) (h : letterB c = true) : digitB c = false := by
  have := all8 (fun c => !(letterB c) || !(digitB c)) (by decide +kernel) c
  simp only [h] at this
  simpa using this
theorem blank_digit (c : UInt8) (h : blankB c = true) : alnum c = false := by
  have := all8 (fun c => !(blankB c) || !(alnum c)) (by decide +kernel) c
  simp only [h] at this
  simpa using this
/-- What a word is, by its first byte. -/
theorem next_letter {r : B} {c : UInt8} {u : B} (hr : r = c :: u) (h : letterB c = true) : nextB r = if 24 < (r.takeWhile alnum).length then .error 2 else .ok (0, r.takeWhile alnum, 0) := by
  have ha : alnum c = true := by simp [alnum, h]
  unfold nextB
  rw [hr, List.takeWhile_cons, if_pos ha]
  dsimp only
  rw [if_neg (by simp [letter_digit c h])]
theorem next_digit {r : B} {c : UInt8} {u : B} (hr : r = c :: u) (h : digitB c = true) : nextB r = if (numL (r.takeWhile alnum)).2 = true then .ok (1, r.takeWhile alnum, (numL (r.takeWhile alnum)).1) else .error 10 := by
  have ha : alnum c = true := by simp [alnum, h]
  unfold nextB
  rw [hr, List.takeWhile_cons, if_pos ha]
  dsimp only
  rw [if_pos h]
theorem next_sign {r : B} {c : UInt8} {u : B} (hr : r = c :: u) (h1 : letterB c = false) (h2 : digitB c = false) : nextB r = (if sgB r = [] then .error 10 else .ok (2, sgB r, 0)) ∧ r.takeWhile alnum = [] := by
  have ha : alnum c = false := by simp [alnum, h1, h2]
  have e : r.takeWhile alnum = [] := by rw [hr, List.takeWhile_cons, if_neg (by simp [ha])]
  unfold nextB
  rw [e]
  exact ⟨rfl, rfl⟩
end Go.Proofs.YtfiebpcambdbaaaDoor.Lex
