/-
  Words of a text, in plain Lean: blanks and notes, signs, a word, all words; and what the laws of chapter 02 say of them.
-/
import Derived.Test.YtfiebpcambdbaaaDoorNum
import Derived.Lib.Bytealg
import Derived.Lib.SlTrimSet
import Derived.Lib.IndexMore
import Derived.Lib.LastIndexByte
set_option linter.unusedVariables false
set_option linter.unusedSimpArgs false
set_option maxHeartbeats 4000000
set_option maxRecDepth 8000
namespace Go.Proofs.YtfiebpcambdbaaaDoor.Lex

abbrev B := List UInt8
def letterB (c : UInt8) : Bool := (decide (97 ≤ c.toNat) && decide (c.toNat ≤ 122)) || (decide (65 ≤ c.toNat) && decide (c.toNat ≤ 90)) || decide (c.toNat = 95)
def digitB (c : UInt8) : Bool := decide (48 ≤ c.toNat) && decide (c.toNat ≤ 57)
def alnum (c : UInt8) : Bool := letterB c || digitB c
def blanksB : B := [32, 9, 10, 13]
def blankB (c : UInt8) : Bool := blanksB.contains c
def signsB : B := [43, 45, 42, 47, 37, 38, 124, 94, 60, 62, 33, 61, 40, 41, 91, 93, 123, 125, 59, 44]
def pairsB : List B := [[38, 38], [124, 124], [61, 61], [33, 61], [60, 61], [62, 61], [60, 60], [62, 62]]
def sgB (s : B) : B := if pairsB.contains (s.take 2) then s.take 2 else if signsB.contains (s.headD 0) then s.take 1 else []
def afterNl (s : B) : B := (s.dropWhile (fun c => c != 10)).drop 1
def isNote (s : B) : Bool := [47, 47].isPrefixOf s

theorem dropWhile_le (p : UInt8 → Bool) : ∀ s : B, (s.dropWhile p).length ≤ s.length
  | [] => Nat.le_refl _
  | c :: s => by
    rw [List.dropWhile_cons]
    split
    · have := dropWhile_le p s; simp; omega
    · exact Nat.le_refl _
theorem afterNl_lt {s : B} (h : isNote s = true) : (afterNl s).length < s.length := by
  unfold afterNl
  have h1 := dropWhile_le (fun c => c != 10) s
  rw [List.length_drop]
  have : s ≠ [] := by rintro rfl; simp [isNote] at h
  have : 0 < s.length := List.length_pos_iff.2 this
  omega
/-- A text without the blanks and notes that it begins with. -/
def skipB (s : B) : B := if h : isNote (s.dropWhile blankB) = true then skipB (afterNl (s.dropWhile blankB)) else s.dropWhile blankB
termination_by s.length
decreasing_by
  have h1 := afterNl_lt h
  have h2 := dropWhile_le blankB s
  omega
theorem skipB_note {s : B} (h : isNote (s.dropWhile blankB) = true) : skipB s = skipB (afterNl (s.dropWhile blankB)) := by
  rw [skipB, dif_pos h]
theorem skipB_else {s : B} (h : isNote (s.dropWhile blankB) = false) : skipB s = s.dropWhile blankB := by
  rw [skipB, dif_neg (by simp [h])]
theorem skipB_blank {c : UInt8} {s : B} (h : blankB c = true) : skipB (c :: s) = skipB s := by
  have e : (c :: s).dropWhile blankB = s.dropWhile blankB := by rw [List.dropWhile_cons, if_pos h]
  cases hi : isNote (s.dropWhile blankB) with
  | true => rw [skipB_note (s := c :: s) (by rw [e]; exact hi), skipB_note hi, e]
  | false => rw [skipB_else (s := c :: s) (by rw [e]; exact hi), skipB_else hi, e]
theorem skipB_le (s : B) : (skipB s).length ≤ s.length := by
  have h2 := dropWhile_le blankB s
  by_cases h : isNote (s.dropWhile blankB) = true
  · rw [skipB_note h]
    have h1 := afterNl_lt h
    have h3 := skipB_le (afterNl (s.dropWhile blankB))
    omega
  · rw [skipB_else (by simpa using h)]
    exact h2
termination_by s.length
decreasing_by
  have h1 := afterNl_lt h
  have h2 := dropWhile_le blankB s
  omega
theorem dropWhile_suffix (p : UInt8 → Bool) (s : B) : s.dropWhile p <:+ s := List.dropWhile_suffix p
theorem skipB_suffix (s : B) : skipB s <:+ s := by
  have h2 := dropWhile_suffix blankB s
  by_cases h : isNote (s.dropWhile blankB) = true
  · rw [skipB_note h]
    have h3 := skipB_suffix (afterNl (s.dropWhile blankB))
    exact h3.trans (((List.drop_suffix _ _).trans (List.dropWhile_suffix _)).trans h2)
  · rw [skipB_else (by simpa using h)]
    exact h2
termination_by s.length
decreasing_by
  have h1 := afterNl_lt h
  have h2 := dropWhile_le blankB s
  omega
theorem head_dropWhile (p : UInt8 → Bool) : ∀ {s : B} {c : UInt8} {r : B}, s.dropWhile p = c :: r → p c = false
  | [], _, _, h => by simp at h
  | a :: s, c, r, h => by
    rw [List.dropWhile_cons] at h
    split at h
    · exact head_dropWhile p h
    · rename_i hp
      cases h
      simpa using hp
/-- What is left begins with no blank, and with no note. -/
theorem skipB_done (s : B) : (∀ c r, skipB s = c :: r → blankB c = false) ∧ isNote (skipB s) = false := by
  by_cases h : isNote (s.dropWhile blankB) = true
  · rw [skipB_note h]
    exact skipB_done (afterNl (s.dropWhile blankB))
  · have h' : isNote (s.dropWhile blankB) = false := by simpa using h
    rw [skipB_else h']
    exact ⟨fun c r e => head_dropWhile blankB e, h'⟩
termination_by s.length
decreasing_by
  have h1 := afterNl_lt h
  have h2 := dropWhile_le blankB s
  omega
theorem dropWhile_self (p : UInt8 → Bool) {s : B} (h : ∀ c r, s = c :: r → p c = false) : s.dropWhile p = s := by
  cases s with
  | nil => rfl
  | cons c r => rw [List.dropWhile_cons, if_neg (by simp [h c r rfl])]
theorem skipB_self {s : B} (h1 : ∀ c r, s = c :: r → blankB c = false) (h2 : isNote s = false) : skipB s = s := by
  have e := dropWhile_self blankB h1
  rw [skipB_else (by rw [e]; exact h2), e]
theorem skipB_skip (s : B) : skipB (skipB s) = skipB s := skipB_self (skipB_done s).1 (skipB_done s).2

/-- The word that a text begins with: its kind, text, number; or an error. -/
def nextB (s : B) : Except Int (Int × B × Int) :=
  match s.takeWhile alnum with
  | [] => if sgB s = [] then .error 10 else .ok (2, sgB s, 0)
  | c :: t => if digitB c then (if (numL (c :: t)).2 = true then .ok (1, c :: t, (numL (c :: t)).1) else .error 10) else if 24 < (c :: t).length then .error 2 else .ok (0, c :: t, 0)

theorem takeWhile_prefix (p : UInt8 → Bool) (s : B) : s.takeWhile p <+: s := List.takeWhile_prefix p
theorem sgB_prefix (s : B) : sgB s <+: s := by
  unfold sgB
  split
  · exact List.take_prefix _ _
  · split
    · exact List.take_prefix _ _
    · exact List.nil_prefix
theorem nextB_ok {s : B} {k : Int} {t : B} {n : Int} (h : nextB s = .ok (k, t, n)) : t ≠ [] ∧ t <+: s ∧ k ≠ 3 := by
  unfold nextB at h
  split at h
  · split at h
    · cases h
    · rename_i h1
      cases h
      exact ⟨h1, sgB_prefix s, by decide⟩
  · rename_i c r e
    have hp := takeWhile_prefix alnum s
    rw [e] at hp
    split at h
    · split at h
      · cases h
        exact ⟨by simp, hp, by decide⟩
      · cases h
    · split at h
      · cases h
      · cases h
        exact ⟨by simp, hp, by decide⟩

structure Wd where
  kind : Int
  text : B
  n : Int
  at' : Int
/-- The words of a text that begins with no blank and no note; 'T': where the end stands. -/
def wordsR (T : Int) (r : B) : Except (Int × Int) (List Wd) :=
  if r = [] then .ok [⟨3, [], 0, T⟩] else
    match h : nextB r with
    | .error e => .error (e, T - r.length)
    | .ok (k, t, n) =>
      match wordsR T (skipB (r.drop t.length)) with
      | .error x => .error x
      | .ok l => .ok (⟨k, t, n, T - r.length⟩ :: l)
termination_by r.length
decreasing_by
  have h1 := nextB_ok h
  have h2 := skipB_le (r.drop t.length)
  rw [List.length_drop] at h2
  have h3 : 0 < t.length := List.length_pos_iff.2 h1.1
  have h4 := h1.2.1.length_le
  omega
/-- A word in front of what comes. -/
def consW (x : Wd) : Except (Int × Int) (List Wd) → Except (Int × Int) (List Wd)
  | .error e => .error e
  | .ok l => .ok (x :: l)
theorem wordsR_nil (T : Int) : wordsR T [] = .ok [⟨3, [], 0, T⟩] := by rw [wordsR, if_pos rfl]
theorem wordsR_err {T : Int} {r : B} {e : Int} (hr : r ≠ []) (h : nextB r = .error e) : wordsR T r = .error (e, T - r.length) := by
  rw [wordsR, if_neg hr]
  split
  · rename_i e' h'
    rw [h] at h'
    cases h'
    rfl
  · rename_i h'
    rw [h] at h'
    cases h'
theorem wordsR_ok {T : Int} {r : B} {k : Int} {t : B} {n : Int} (hr : r ≠ []) (h : nextB r = .ok (k, t, n)) : wordsR T r = consW ⟨k, t, n, T - r.length⟩ (wordsR T (skipB (r.drop t.length))) := by
  rw [wordsR, if_neg hr]
  split
  · rename_i h'
    rw [h] at h'
    cases h'
  · rename_i k' t' n' h'
    rw [h] at h'
    cases h'
    cases wordsR T (skipB (r.drop t.length)) <;> rfl
theorem drop_lt {r : B} {k : Int} {t : B} {n : Int} (hr : r ≠ []) (h : nextB r = .ok (k, t, n)) : (skipB (r.drop t.length)).length < r.length := by
  have h1 := nextB_ok h
  have h2 := skipB_le (r.drop t.length)
  rw [List.length_drop] at h2
  have h3 : 0 < t.length := List.length_pos_iff.2 h1.1
  have h4 := h1.2.1.length_le
  have h5 : 0 < r.length := List.length_pos_iff.2 hr
  omega
/-- The same by so many steps, to be reckoned. -/
def skipF : Nat → B → B
  | 0, s => s
  | m + 1, s => if isNote (s.dropWhile blankB) = true then skipF m (afterNl (s.dropWhile blankB)) else s.dropWhile blankB
theorem skipF_is : ∀ (m : Nat) (s : B), s.length < m → skipF m s = skipB s
  | 0, _, h => by omega
  | m + 1, s, h => by
    rw [skipF]
    have h2 := dropWhile_le blankB s
    by_cases hi : isNote (s.dropWhile blankB) = true
    · have h1 := afterNl_lt hi
      rw [if_pos hi, skipB_note hi, skipF_is m _ (by omega)]
    · rw [if_neg hi, skipB_else (by simpa using hi)]
def wordsF : Nat → Int → B → Except (Int × Int) (List Wd)
  | 0, _, _ => .error (0, 0)
  | m + 1, T, r => if r = [] then .ok [⟨3, [], 0, T⟩] else
    match nextB r with
    | .error e => .error (e, T - r.length)
    | .ok (k, t, n) => consW ⟨k, t, n, T - r.length⟩ (wordsF m T (skipF (r.length + 1) (r.drop t.length)))
theorem wordsF_is : ∀ (m : Nat) (T : Int) (r : B), r.length < m → wordsF m T r = wordsR T r
  | 0, _, _, h => by omega
  | m + 1, T, r, h => by
    rw [wordsF]
    by_cases hr : r = []
    · subst hr
      rw [if_pos rfl, wordsR_nil]
    · rw [if_neg hr]
      cases hx : nextB r with
      | error e => rw [wordsR_err hr hx]
      | ok x =>
        obtain ⟨k, t, n⟩ := x
        have h1 := drop_lt hr hx
        rw [wordsR_ok hr hx, ← wordsF_is m T _ (show (skipB (r.drop t.length)).length < m by omega), ← skipF_is (r.length + 1) _ (show (r.drop t.length).length < r.length + 1 by rw [List.length_drop]; omega)]
/-- All words of a text. -/
def wordsB (s : B) : Except (Int × Int) (List Wd) := if 16384 < s.length then .error (2, 0) else wordsR s.length (skipB s)
end Go.Proofs.YtfiebpcambdbaaaDoor.Lex
