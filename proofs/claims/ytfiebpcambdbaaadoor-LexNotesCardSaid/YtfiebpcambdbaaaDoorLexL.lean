/-
  Words of a text, in plain Lean: what the laws LexBack, LexNotes and LexLines say of them.
-/
import Derived.Test.YtfiebpcambdbaaaDoorLexP
set_option linter.unusedVariables false
set_option linter.unusedSimpArgs false
set_option maxHeartbeats 4000000
set_option maxRecDepth 8000
namespace Go.Proofs.YtfiebpcambdbaaaDoor.Lex

theorem all8 (p : UInt8 → Bool) (h : (List.range 256).all (fun n => p (UInt8.ofNat n)) = true) (c : UInt8) : p c = true := by
  have h1 := List.all_eq_true.1 h c.toNat (List.mem_range.2 c.toNat_lt)
  simpa using h1
theorem alnum_not (c : UInt8) (h : alnum c = true) : blankB c = false ∧ c ≠ 47 ∧ c ≠ 10 ∧ c ≠ 32 := by
  have := all8 (fun c => !(alnum c) || (!(blankB c) && c != 47 && c != 10 && c != 32)) (by decide +kernel) c
  simp [h] at this
  exact ⟨this.1.1.1, this.1.1.2, this.1.2, this.2⟩
theorem sign_not (c : UInt8) (h : signsB.contains c = true) : blankB c = false := by
  have := all8 (fun c => !(signsB.contains c) || !(blankB c)) (by decide +kernel) c
  simp only [h] at this
  simpa using this
theorem pair_is {p : B} (h : pairsB.contains p = true) : ∃ a b, p = [a, b] ∧ signsB.contains a = true ∧ blankB a = false ∧ b ≠ 10 ∧ b ≠ 32 ∧ ¬ (a = 47 ∧ b = 47) := by
  simp only [pairsB, List.contains_eq_mem, List.mem_cons, List.not_mem_nil, or_false, decide_eq_true_eq] at h
  rcases h with rfl | rfl | rfl | rfl | rfl | rfl | rfl | rfl <;> exact ⟨_, _, rfl, by decide, by decide, by decide, by decide, by decide⟩
theorem no_pair1 (a : UInt8) : pairsB.contains [a] = false := by
  cases h : pairsB.contains [a] with
  | false => rfl
  | true => obtain ⟨x, y, e, _⟩ := pair_is h; simp at e
theorem no_pair {a c : UInt8} (h : c = 10 ∨ c = 32) : pairsB.contains [a, c] = false := by
  cases hp : pairsB.contains [a, c] with
  | false => rfl
  | true =>
    obtain ⟨x, y, e, _, _, h1, h2, _⟩ := pair_is hp
    simp at e
    rcases h with h | h
    · exact absurd (e.2.symm.trans h) h1
    · exact absurd (e.2.symm.trans h) h2
theorem takeWhile_stop (p : UInt8 → Bool) : ∀ (t : B), (∀ x ∈ t, p x = true) → ∀ (c : UInt8) (u : B), p c = false → (t ++ c :: u).takeWhile p = t
  | [], _, c, u, hc => by simp [hc]
  | a :: t, h, c, u, hc => by
    rw [List.cons_append, List.takeWhile_cons, if_pos (h a (by simp)), takeWhile_stop p t (fun x hx => h x (by simp [hx])) c u hc]
theorem takeWhile_app (p : UInt8 → Bool) (c : UInt8) (u : B) (hc : p c = false) : ∀ (t : B), (t ++ c :: u).takeWhile p = t.takeWhile p
  | [] => by simp [hc]
  | a :: t => by
    rw [List.cons_append, List.takeWhile_cons, List.takeWhile_cons, takeWhile_app p c u hc t]
theorem takeWhile_all (p : UInt8 → Bool) (s : B) : ∀ x ∈ s.takeWhile p, p x = true := by
  induction s with
  | nil => intro x hx; simp at hx
  | cons a s ih =>
    intro x hx
    rw [List.takeWhile_cons] at hx
    split at hx
    · rename_i h
      rcases List.mem_cons.1 hx with rfl | h2
      · exact h
      · exact ih x h2
    · simp at hx
theorem alnum10 : alnum 10 = false := by decide
theorem alnum32 : alnum 32 = false := by decide
theorem takeWhile_nil_head {s : B} (h : s.takeWhile alnum = []) : ∀ a r, s = a :: r → alnum a = false := by
  rintro a r rfl
  rw [List.takeWhile_cons] at h
  split at h
  · simp at h
  · rename_i hp; simpa using hp

/-- What a word's text is: letters and digits; or a sign. -/
theorem next_form {r : B} {k : Int} {t : B} {n : Int} (h : nextB r = .ok (k, t, n)) :
    (t ≠ [] ∧ r.takeWhile alnum = t) ∨ (r.takeWhile alnum = [] ∧ t = sgB r ∧ t ≠ [] ∧ k = 2 ∧ n = 0) := by
  unfold nextB at h
  split at h
  · rename_i e
    split at h
    · cases h
    · rename_i h1; cases h; exact .inr ⟨e, rfl, h1, rfl, rfl⟩
  · rename_i c w e
    split at h
    · split at h
      · cases h; exact .inl ⟨by simp, e⟩
      · cases h
    · split at h
      · cases h
      · cases h; exact .inl ⟨by simp, e⟩
/-- Of a word's value only what stands in its text plays a part. -/
theorem nextB_alnum {r r' : B} (h : r.takeWhile alnum = r'.takeWhile alnum) (hn : r.takeWhile alnum ≠ []) : nextB r' = nextB r := by
  unfold nextB
  rw [← h]
  cases e : r.takeWhile alnum with
  | nil => exact absurd e hn
  | cons c t => rfl
theorem sgB_form {r : B} (h : sgB r ≠ []) : (∃ a b u, r = a :: b :: u ∧ pairsB.contains [a, b] = true ∧ sgB r = [a, b]) ∨ (∃ a u, r = a :: u ∧ signsB.contains a = true ∧ sgB r = [a]) := by
  unfold sgB at h ⊢
  by_cases hp : pairsB.contains (r.take 2) = true
  · rw [if_pos hp]
    obtain ⟨x, y, e, _⟩ := pair_is hp
    match r, e with
    | a :: b :: u, e => exact .inl ⟨a, b, u, rfl, hp, rfl⟩
  · rw [if_neg hp] at h ⊢
    by_cases hs : signsB.contains (r.headD 0) = true
    · rw [if_pos hs] at h ⊢
      match r, h with
      | a :: u, h => exact .inr ⟨a, u, rfl, hs, rfl⟩
    · rw [if_neg hs] at h
      exact absurd rfl h
/-- A word is the same again behind which a blank stands. -/
theorem nextB_again {r : B} {k : Int} {t : B} {n : Int} (h : nextB r = .ok (k, t, n)) {c : UInt8} (hc : c = 10 ∨ c = 32) (u : B) : nextB (t ++ c :: u) = .ok (k, t, n) ∧ skipB (t ++ c :: u) = t ++ c :: u := by
  have hca : alnum c = false := by rcases hc with rfl | rfl <;> decide
  rcases next_form h with ⟨h1, h2⟩ | ⟨h1, h2, h3, rfl, rfl⟩
  · have hall : ∀ x ∈ t, alnum x = true := by rw [← h2]; exact takeWhile_all alnum r
    have e : (t ++ c :: u).takeWhile alnum = t := takeWhile_stop alnum t hall c u hca
    refine ⟨?_, ?_⟩
    · rw [nextB_alnum (r := r) (r' := t ++ c :: u) (by rw [e, h2]) (by rw [h2]; exact h1)]
      exact h
    · match t, h1, hall with
      | a :: t, _, hall =>
        have ha := alnum_not a (hall a (by simp))
        exact skipB_self (fun x r e => by cases e; exact ha.1) (by
          have := ha.2.1
          simp [isNote, List.isPrefixOf, Ne.symm this])
  · rcases sgB_form (r := r) (by rw [← h2]; exact h3) with ⟨a, b, v, rfl, hp, hs⟩ | ⟨a, v, rfl, hs1, hs⟩
    · rw [hs] at h2
      subst h2
      obtain ⟨x, y, e, hsx, hbx, h10, h32, hnn⟩ := pair_is hp
      simp only [List.cons.injEq, and_true] at e
      obtain ⟨rfl, rfl⟩ := e
      have ha := takeWhile_nil_head h1 _ _ rfl
      refine ⟨?_, ?_⟩
      · unfold nextB
        rw [show ([a, b] ++ c :: u : B) = a :: b :: c :: u from rfl, List.takeWhile_cons, if_neg (by simp [ha])]
        have e2 : sgB (a :: b :: c :: u) = [a, b] := by unfold sgB; rw [if_pos (by simpa using hp)]; rfl
        simp [e2]
      · exact skipB_self (fun x r e => by cases e; exact hbx) (by
          simp only [isNote, List.isPrefixOf, List.cons_append, Bool.and_true]
          by_cases hx : a = 47
          · have hy : b ≠ 47 := fun h => hnn ⟨hx, h⟩
            simp [Ne.symm hy]
          · simp [Ne.symm hx])
    · rw [hs] at h2
      subst h2
      have ha := takeWhile_nil_head h1 _ _ rfl
      have hnp := no_pair (a := a) hc
      refine ⟨?_, ?_⟩
      · unfold nextB
        rw [show ([a] ++ c :: u : B) = a :: c :: u from rfl, List.takeWhile_cons, if_neg (by simp [ha])]
        have e2 : sgB (a :: c :: u) = [a] := by
          unfold sgB
          rw [if_neg (by simpa using hnp), if_pos (by simpa using hs1)]
          rfl
        simp [e2]
      · have hb := sign_not a hs1
        exact skipB_self (fun x r e => by cases e; exact hb) (by
          have : c ≠ 47 := by rcases hc with rfl | rfl <;> decide
          simp [isNote, List.isPrefixOf, Ne.symm this])
def WdOk (w : Wd) : Prop := ∃ r, nextB r = .ok (w.kind, w.text, w.n)
def bare (l : List Wd) : List (Int × B × Int) := l.map fun w => (w.kind, w.text, w.n)
theorem wordsR_cases (T : Int) {r : B} (hr : r ≠ []) : (∃ e, nextB r = .error e ∧ wordsR T r = .error (e, T - r.length)) ∨ (∃ k t n, nextB r = .ok (k, t, n) ∧ wordsR T r = consW ⟨k, t, n, T - r.length⟩ (wordsR T (skipB (r.drop t.length)))) := by
  cases h : nextB r with
  | error e => exact .inl ⟨e, rfl, wordsR_err hr h⟩
  | ok x => obtain ⟨k, t, n⟩ := x; exact .inr ⟨k, t, n, rfl, wordsR_ok hr h⟩
theorem consW_ok {x : Wd} {y : Except (Int × Int) (List Wd)} {l : List Wd} (h : consW x y = .ok l) : ∃ l', y = .ok l' ∧ l = x :: l' := by
  cases y with
  | error e => cases h
  | ok l' => cases h; exact ⟨l', rfl, rfl⟩
theorem consW_err {x : Wd} {y : Except (Int × Int) (List Wd)} {e : Int × Int} (h : consW x y = .error e) : y = .error e := by
  cases y with
  | error e' => cases h; rfl
  | ok l' => cases h
/-- The end stands last, alone; each other one is some text's first word. -/
theorem wordsR_form (T : Int) : ∀ (m : Nat) (r : B), r.length ≤ m → ∀ l, wordsR T r = .ok l → ∃ l0, l = l0 ++ [⟨3, [], 0, T⟩] ∧ ∀ w ∈ l0, WdOk w
  | m, r, hm, l, h => by
    by_cases hr : r = []
    · subst hr
      rw [wordsR_nil] at h
      cases h
      exact ⟨[], rfl, fun _ h => by simp at h⟩
    · rcases wordsR_cases T hr with ⟨e, _, h2⟩ | ⟨k, t, n, h1, h2⟩
      · rw [h2] at h; cases h
      · rw [h2] at h
        obtain ⟨l', h3, rfl⟩ := consW_ok h
        have hlt := drop_lt hr h1
        match m, hm with
        | 0, hm => omega
        | m + 1, hm =>
          obtain ⟨l0, rfl, h4⟩ := wordsR_form T m _ (by omega) l' h3
          exact ⟨_ :: l0, rfl, fun w hw => by
            rcases List.mem_cons.1 hw with rfl | hw
            · exact ⟨r, h1⟩
            · exact h4 w hw⟩
/-- Words' texts, each with a sign behind. -/
def glue (l : List Wd) (c : UInt8) : B := l.flatMap fun w => w.text ++ [c]
theorem blank_of {c : UInt8} (hc : c = 10 ∨ c = 32) : blankB c = true := by rcases hc with rfl | rfl <;> decide
theorem wordsR_glue (T : Int) {c : UInt8} (hc : c = 10 ∨ c = 32) (T0 : Int) : ∀ l : List Wd, (∀ w ∈ l, WdOk w) → ∃ l', wordsR T (skipB (glue (l ++ [⟨3, [], 0, T0⟩]) c)) = .ok l' ∧ bare l' = bare (l ++ [⟨3, [], 0, T0⟩])
  | [], _ => by
    refine ⟨[⟨3, [], 0, T⟩], ?_, rfl⟩
    have : skipB (glue [⟨3, [], 0, T0⟩] c) = [] := by
      show skipB ([] ++ [c] ++ []) = []
      rw [List.nil_append, List.append_nil, skipB_blank (blank_of hc), skipB_else (by rfl)]
      rfl
    rw [List.nil_append, this, wordsR_nil]
  | w :: l, h => by
    obtain ⟨r, hr⟩ := h w (by simp)
    obtain ⟨l', h1, h2⟩ := wordsR_glue T hc T0 l (fun x hx => h x (by simp [hx]))
    have e : glue (w :: l ++ [⟨3, [], 0, T0⟩]) c = w.text ++ c :: glue (l ++ [⟨3, [], 0, T0⟩]) c := by simp [glue]
    obtain ⟨h3, h4⟩ := nextB_again hr hc (glue (l ++ [⟨3, [], 0, T0⟩]) c)
    rw [e, h4, wordsR_ok (by simp) h3, List.drop_left, skipB_blank (blank_of hc), h1]
    exact ⟨_, rfl, by simp only [bare, List.map_cons, List.cons_append, List.cons.injEq, true_and] at h2 ⊢; exact h2⟩

/-- Where a text's words stand. -/
theorem wordsR_at (s : B) : ∀ (m : Nat) (r : B), r.length ≤ m → r <:+ s → ∀ l, wordsR s.length r = .ok l →
    ∀ i, (h : i < l.length) → (∃ u, l[i].at' = ((s.length - u.length : Nat) : Int) ∧ u <:+ r ∧ l[i].text <+: u ∧ (l[i].kind = 3 ↔ i + 1 = l.length) ∧
      ∀ h2 : i + 1 < l.length, l[i].at' + l[i].text.length ≤ l[i + 1].at')
  | m, r, hm, hs, l, h, i, hi => by
    by_cases hr : r = []
    · subst hr
      rw [wordsR_nil] at h
      cases h
      match i, hi with
      | 0, _ => exact ⟨[], by simp, List.suffix_refl _, List.prefix_refl _, by simp, fun h2 => by simp at h2⟩
    · rcases wordsR_cases s.length hr with ⟨e, _, h2⟩ | ⟨k, t, n, h1, h2⟩
      · rw [h2] at h; cases h
      · rw [h2] at h
        obtain ⟨l', h3, rfl⟩ := consW_ok h
        have hlt := drop_lt hr h1
        have hn := nextB_ok h1
        have hsl := hs.length_le
        have hsuf : skipB (r.drop t.length) <:+ r := (skipB_suffix _).trans (List.drop_suffix _ _)
        match m, hm with
        | 0, hm => omega
        | m + 1, hm =>
          have ih := wordsR_at s m (skipB (r.drop t.length)) (by omega) (hsuf.trans hs) l' h3
          match i, hi with
          | 0, _ =>
            have hl' : l' ≠ [] := by
              obtain ⟨l0, rfl, _⟩ := wordsR_form s.length _ _ (Nat.le_refl _) l' h3
              simp
            have hl2 : 0 < l'.length := List.length_pos_iff.2 hl'
            refine ⟨r, ?_, List.suffix_refl _, hn.2.1, ⟨fun h => absurd h hn.2.2, fun h => by rw [List.length_cons] at h; omega⟩, fun h2 => ?_⟩
            · show (s.length : Int) - r.length = _
              omega
            · obtain ⟨u, hu1, hu2, _⟩ := ih 0 hl2
              show (s.length : Int) - r.length + t.length ≤ l'[0].at'
              rw [hu1]
              have e1 := hu2.length_le
              have e2 := skipB_le (r.drop t.length)
              rw [List.length_drop] at e2
              have e3 := hn.2.1.length_le
              omega
          | i + 1, hi =>
            have hi' : i < l'.length := by simpa using hi
            obtain ⟨u, hu1, hu2, hu3, hu4, hu5⟩ := ih i hi'
            exact ⟨u, hu1, hu2.trans hsuf, hu3, by simpa using hu4, fun h2 => hu5 (by simpa using h2)⟩
/-- An error stands in the text. -/
theorem wordsR_bad (T : Int) : ∀ (m : Nat) (r : B), r.length ≤ m → ∀ e a, wordsR T r = .error (e, a) → T - r.length ≤ a ∧ a < T
  | m, r, hm, e, a, h => by
    by_cases hr : r = []
    · subst hr
      rw [wordsR_nil] at h
      cases h
    · have hpos : 0 < r.length := List.length_pos_iff.2 hr
      rcases wordsR_cases T hr with ⟨e', _, h2⟩ | ⟨k, t, n, h1, h2⟩
      · rw [h2] at h; cases h; omega
      · rw [h2] at h
        have h3 := consW_err h
        have hlt := drop_lt hr h1
        match m, hm with
        | 0, hm => omega
        | m + 1, hm =>
          have := wordsR_bad T m _ (by omega) e a h3
          omega

/-- All stand so much further. -/
def shiftW (d : Int) : Except (Int × Int) (List Wd) → Except (Int × Int) (List Wd)
  | .error (e, a) => .error (e, a + d)
  | .ok l => .ok (l.map fun w => { w with at' := w.at' + d })
theorem wordsR_shift (T d : Int) : ∀ (m : Nat) (r : B), r.length ≤ m → wordsR (T + d) r = shiftW d (wordsR T r)
  | m, r, hm => by
    by_cases hr : r = []
    · subst hr
      rw [wordsR_nil, wordsR_nil]
      rfl
    · cases h : nextB r with
      | error e =>
        rw [wordsR_err hr h, wordsR_err hr h]
        simp only [shiftW]
        congr 2
        omega
      | ok x =>
        obtain ⟨k, t, n⟩ := x
        have hlt := drop_lt hr h
        rw [wordsR_ok hr h, wordsR_ok hr h]
        match m, hm with
        | 0, hm => omega
        | m + 1, hm =>
          rw [wordsR_shift T d m _ (by omega)]
          cases wordsR T (skipB (r.drop t.length)) with
          | error x => rfl
          | ok l =>
            simp only [shiftW, consW, List.map_cons]
            congr 3
            omega
/-- Words in front, but for the end, of what comes. -/
def prepW : Except (Int × Int) (List Wd) → Except (Int × Int) (List Wd) → Except (Int × Int) (List Wd)
  | .error x, _ => .error x
  | .ok _, .error y => .error y
  | .ok l, .ok m => .ok (l.dropLast ++ m)
theorem prepW_cons (W : Wd) (x y : Except (Int × Int) (List Wd)) (h : ∀ l, x = .ok l → l ≠ []) : prepW (consW W x) y = consW W (prepW x y) := by
  cases x with
  | error e => rfl
  | ok l =>
    cases y with
    | error e => rfl
    | ok m =>
      have := h l rfl
      simp only [consW, prepW]
      rw [List.dropLast_cons_of_ne_nil this]
      rfl
section Notes
variable (note t : B) (hn : (10 : UInt8) ∉ note)
/-- A note on a line of its own, and a text behind it. -/
def noted (note t : B) : B := 10 :: 47 :: 47 :: (note ++ 10 :: t)
include hn in
theorem afterNl_note (u : B) : afterNl (u ++ 47 :: 47 :: (note ++ 10 :: t)) = if (10 : UInt8) ∈ u then afterNl u ++ 47 :: 47 :: (note ++ 10 :: t) else t := by
  unfold afterNl
  induction u with
  | nil =>
    rw [if_neg (by simp)]
    simp only [List.nil_append]
    have : ∀ v : B, (10 : UInt8) ∉ v → (v ++ 10 :: t).dropWhile (fun c => c != 10) = 10 :: t := by
      intro v
      induction v with
      | nil => intro _; simp
      | cons a v ih =>
        intro h
        simp only [List.mem_cons, not_or] at h
        rw [List.cons_append, List.dropWhile_cons, if_pos (by simpa using Ne.symm h.1), ih h.2]
    have := this (47 :: 47 :: note) (by simp [hn])
    simp only [List.cons_append] at this
    rw [this]
    rfl
  | cons a u ih =>
    by_cases ha : a = 10
    · subst ha
      simp
    · have h1 : (a != 10) = true := by simpa using ha
      rw [List.cons_append, List.dropWhile_cons, if_pos h1, List.dropWhile_cons, if_pos h1, ih]
      simp [Ne.symm ha]
theorem afterNl_app (u Y : B) (h : (10 : UInt8) ∈ u) : afterNl (u ++ Y) = afterNl u ++ Y := by
  unfold afterNl
  induction u with
  | nil => simp at h
  | cons a u ih =>
    by_cases ha : a = 10
    · subst ha; simp
    · have h1 : (a != 10) = true := by simpa using ha
      rw [List.cons_append, List.dropWhile_cons, if_pos h1, List.dropWhile_cons, if_pos h1]
      exact ih (by simpa [Ne.symm ha] using h)
theorem afterNl_app0 (u Y : B) (h : (10 : UInt8) ∉ u) : afterNl (u ++ 10 :: Y) = Y ∧ afterNl u = [] := by
  unfold afterNl
  induction u with
  | nil => simp
  | cons a u ih =>
    simp only [List.mem_cons, not_or] at h
    have h1 : (a != 10) = true := by simpa using Ne.symm h.1
    rw [List.cons_append, List.dropWhile_cons, if_pos h1, List.dropWhile_cons, if_pos h1]
    exact ih h.2
include hn in
theorem skip_note : skipB (47 :: 47 :: (note ++ 10 :: t)) = skipB t := by
  have e : (47 :: 47 :: (note ++ 10 :: t) : B).dropWhile blankB = 47 :: 47 :: (note ++ 10 :: t) := by
    rw [List.dropWhile_cons, if_neg (by decide)]
  rw [skipB_note (by rw [e]; rfl), e]
  have := (afterNl_app0 (47 :: 47 :: note) t (by simp [hn])).1
  simp only [List.cons_append] at this
  rw [this]
theorem dropWhile_app (p : UInt8 → Bool) (Y : B) : ∀ u : B, (u ++ Y).dropWhile p = if u.dropWhile p = [] then Y.dropWhile p else u.dropWhile p ++ Y
  | [] => by simp
  | a :: u => by
    rw [List.cons_append, List.dropWhile_cons, List.dropWhile_cons]
    split
    · exact dropWhile_app p Y u
    · simp
include hn in
theorem skip_app : ∀ (m : Nat) (u : B), u.length ≤ m → skipB (u ++ noted note t) = if skipB u = [] then skipB t else skipB u ++ noted note t
  | m, u, hm => by
    have e := dropWhile_app blankB (noted note t) u
    have hX : (noted note t).dropWhile blankB = 47 :: 47 :: (note ++ 10 :: t) := by
      unfold noted
      rw [List.dropWhile_cons, if_pos (by decide), List.dropWhile_cons, if_neg (by decide)]
    by_cases hu : u.dropWhile blankB = []
    · rw [if_pos hu, hX] at e
      have h0 : skipB u = [] := by rw [skipB_else (by rw [hu]; rfl), hu]
      rw [if_pos h0]
      have e2 : (47 :: 47 :: (note ++ 10 :: t) : B).dropWhile blankB = 47 :: 47 :: (note ++ 10 :: t) := by
        rw [List.dropWhile_cons, if_neg (by decide)]
      have e3 : skipB (u ++ noted note t) = skipB (47 :: 47 :: (note ++ 10 :: t)) := by
        rw [skipB_note (s := u ++ noted note t) (by rw [e]; rfl), skipB_note (s := 47 :: 47 :: (note ++ 10 :: t)) (by rw [e2]; rfl), e, e2]
      rw [e3, skip_note note t hn]
    · rw [if_neg hu] at e
      have hno : isNote (u.dropWhile blankB ++ noted note t) = isNote (u.dropWhile blankB) := by
        unfold isNote noted
        match u.dropWhile blankB, hu with
        | [a], _ => simp [List.isPrefixOf]
        | a :: b :: r, _ => simp [List.isPrefixOf]
      cases hi : isNote (u.dropWhile blankB) with
      | false =>
        rw [skipB_else (by rw [e, hno]; exact hi), skipB_else hi, e, if_neg hu]
      | true =>
        rw [skipB_note (s := u ++ noted note t) (by rw [e, hno]; exact hi), skipB_note (s := u) hi, e]
        have hlt := afterNl_lt hi
        have hle := dropWhile_le blankB u
        by_cases h10 : (10 : UInt8) ∈ u.dropWhile blankB
        · rw [afterNl_app _ _ h10]
          match m, hm with
          | 0, hm => omega
          | m + 1, hm => exact skip_app m _ (by omega)
        · have h2 := afterNl_app0 (u.dropWhile blankB) (47 :: 47 :: (note ++ 10 :: t)) h10
          rw [show u.dropWhile blankB ++ noted note t = u.dropWhile blankB ++ 10 :: 47 :: 47 :: (note ++ 10 :: t) from rfl, h2.1, h2.2, skip_note note t hn]
          rw [if_pos (by rw [skipB_else (by rfl)]; rfl)]
theorem next_app {r : B} (hr : r ≠ []) (Y : B) : nextB (r ++ 10 :: Y) = nextB r := by
  have e := takeWhile_app alnum 10 Y alnum10 r
  have e2 : sgB (r ++ 10 :: Y) = sgB r := by
    unfold sgB
    match r, hr with
    | [a], _ =>
      have h1 := no_pair1 a
      have h2 := no_pair (a := a) (c := 10) (.inl rfl)
      simp only [List.cons_append, List.nil_append, List.take_succ_cons, List.take_zero, List.headD_cons, List.take_nil, h1, h2, Bool.false_eq_true, if_false]
      by_cases hs : signsB.contains a = true <;> simp
    | a :: b :: r, _ => rfl
  unfold nextB
  rw [e, e2]
theorem ok_ne {T : Int} {r : B} {l : List Wd} (h : wordsR T r = .ok l) : l ≠ [] := by
  obtain ⟨l0, rfl, _⟩ := wordsR_form T _ _ (Nat.le_refl _) l h
  simp
include hn in
theorem words_app (T : Int) : ∀ (m : Nat) (r : B), r.length ≤ m → r ≠ [] → wordsR (T + (noted note t).length) (r ++ noted note t) = prepW (wordsR T r) (wordsR (T + (noted note t).length) (skipB t))
  | m, r, hm, hr => by
    have hne : r ++ noted note t ≠ [] := by simp [hr]
    have hnx : nextB (r ++ noted note t) = nextB r := next_app hr _
    have hlen : T + ((noted note t).length : Int) - (r ++ noted note t).length = T - r.length := by rw [List.length_append]; omega
    cases h : nextB r with
    | error e =>
      rw [wordsR_err hr h, wordsR_err hne (hnx.trans h), hlen]
      rfl
    | ok x =>
      obtain ⟨k, w, n⟩ := x
      have hlt := drop_lt hr h
      have hle := (nextB_ok h).2.1.length_le
      rw [wordsR_ok hr h, wordsR_ok hne (hnx.trans h), hlen, List.drop_append_of_le_length hle, skip_app note t hn _ _ (Nat.le_refl _), prepW_cons _ _ _ (fun l hl => ok_ne hl)]
      by_cases h0 : skipB (r.drop w.length) = []
      · rw [if_pos h0, h0, wordsR_nil]
        cases wordsR (T + (noted note t).length) (skipB t) <;> rfl
      · rw [if_neg h0]
        match m, hm with
        | 0, hm => omega
        | m + 1, hm => rw [words_app T m _ (by omega) h0]
include hn in
/-- Two texts with a note between. -/
theorem words_noted (s : B) (h : (s ++ noted note t).length ≤ 16384) : wordsB (s ++ noted note t) = prepW (wordsB s) (shiftW ((s.length + note.length + 4 : Nat) : Int) (wordsB t)) := by
  have hX : (noted note t).length = note.length + t.length + 4 := by simp [noted]; omega
  rw [List.length_append] at h
  unfold wordsB
  rw [if_neg (by rw [List.length_append]; omega), if_neg (by omega), if_neg (by omega), skip_app note t hn _ _ (Nat.le_refl _)]
  have e1 : shiftW ((s.length + note.length + 4 : Nat) : Int) (wordsR t.length (skipB t)) = wordsR ((s.length : Int) + (noted note t).length) (skipB t) := by
    rw [← wordsR_shift _ _ _ _ (Nat.le_refl _)]
    congr 1
    omega
  rw [e1]
  have e2 : (((s ++ noted note t).length : Nat) : Int) = (s.length : Int) + (noted note t).length := by rw [List.length_append]; omega
  rw [e2]
  by_cases h0 : skipB s = []
  · rw [if_pos h0, h0, wordsR_nil]
    cases wordsR ((s.length : Int) + (noted note t).length) (skipB t) <;> rfl
  · rw [if_neg h0]
    exact words_app note t hn s.length _ _ (Nat.le_refl _) h0
end Notes

/-- Where the last line's end stands among so many signs; -1: there is none. -/
def backI (l : B) : Nat → Int
  | 0 => -1
  | k + 1 => if l[k]? = some 10 then (k : Int) else backI l k
theorem backI_app (l u : B) : ∀ k, k ≤ l.length → backI (l ++ u) k = backI l k
  | 0, _ => rfl
  | k + 1, h => by
    rw [backI, backI, List.getElem?_append_left (by omega), backI_app l u k (by omega)]
theorem backI_lib (l : B) : ∀ k, k ≤ l.length → Lib.lastIdx ⟨l.toArray⟩ 10 k = backI l k
  | 0, _ => rfl
  | k + 1, h => by
    rw [Lib.lastIdx, backI, backI_lib l k (by omega)]
    have hk : k < l.length := by omega
    have e : (ByteArray.data ⟨l.toArray⟩)[k]! = l[k] := by simp [hk]
    rw [e]
    have e2 : (((l[k]).toNat : Int) = 10) ↔ (l[k]? = some 10) := by
      rw [List.getElem?_eq_getElem hk, Option.some.injEq]
      constructor
      · intro h
        have h3 : (l[k]).toNat = 10 := by exact_mod_cast h
        exact UInt8.toNat_inj.1 (show (l[k]).toNat = (10 : UInt8).toNat from h3)
      · intro h; rw [h]; rfl
    by_cases h1 : ((l[k]).toNat : Int) = 10
    · rw [if_pos h1, if_pos (e2.1 h1)]
    · rw [if_neg h1, if_neg (fun h => h1 (e2.2 h))]
def lineP (l : B) : Int := (l.count 10 : Int) + 1
def colP (l : B) : Int := (l.length : Int) - backI l l.length
theorem line_snoc (l : B) (c : UInt8) : lineP (l ++ [c]) = if c = 10 then lineP l + 1 else lineP l := by
  unfold lineP
  rw [List.count_append]
  by_cases h : c = 10
  · subst h; simp
  · rw [if_neg h, List.count_cons_of_ne h]; simp
theorem col_snoc (l : B) (c : UInt8) : colP (l ++ [c]) = if c = 10 then 1 else colP l + 1 := by
  unfold colP
  rw [List.length_append, List.length_cons, List.length_nil, Nat.zero_add, backI]
  by_cases h : c = 10
  · subst h
    rw [if_pos (by simp), if_pos rfl]
    omega
  · rw [if_neg h, if_neg (by simpa using h), backI_app _ _ _ (Nat.le_refl _)]
    omega
theorem take_snoc (s : B) {i : Nat} (h : i < s.length) : s.take (i + 1) = s.take i ++ [s[i]] := List.take_succ_eq_append_getElem h
end Go.Proofs.YtfiebpcambdbaaaDoor.Lex
