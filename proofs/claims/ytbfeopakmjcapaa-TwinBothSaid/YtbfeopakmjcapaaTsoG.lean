/-
  What a step and a flush keep: codes, owners' number; events come one at a time.
-/
import Derived.Test.YtbfeopakmjcapaaShape2
import Derived.Test.YtbfeopakmjcapaaTsoL
set_option linter.unusedVariables false
set_option linter.unusedSimpArgs false
set_option maxHeartbeats 4000000
set_option maxRecDepth 8000
namespace Go.Proofs.Ytbfeopakmjcapaa.Tso
open Go.RowKit Go.Proofs.Ytbfeopakmjcapaa.Seq

theorem doIns_keeps {m : M} {who : Int} {t t' : Th} {i : Ins} {own : List Int} {ev : List Ev} {k : Leak} (h : doIns m who t i = some (t', own, ev, k)) :
    t'.code = t.code ∧ own.length = m.own.length ∧ ev.length ≤ m.events.length + 1 := by
  unfold doIns at h
  dsimp only at h
  by_cases h7 : i.k = 7
  · rw [if_pos h7] at h
    split at h
    · obtain ⟨rfl, rfl, rfl, _⟩ := h; exact ⟨rfl, by simp, by simp⟩
    · obtain ⟨rfl, rfl, rfl, _⟩ := h; exact ⟨rfl, by simp, by simp⟩
  rw [if_neg h7] at h
  by_cases h4 : i.k = 4
  · rw [if_pos h4] at h
    obtain ⟨rfl, rfl, rfl, _⟩ := h; exact ⟨rfl, by simp, by simp⟩
  rw [if_neg h4] at h
  by_cases h5 : i.k = 5
  · rw [if_pos h5] at h
    split at h
    · obtain ⟨rfl, rfl, rfl, _⟩ := h; exact ⟨rfl, by simp, by simp⟩
    · cases h
  rw [if_neg h5] at h
  by_cases h9 : i.k = 9
  · rw [if_pos h9] at h
    split at h
    · cases h
    · obtain ⟨rfl, rfl, rfl, _⟩ := h; exact ⟨rfl, by simp, by simp⟩
  rw [if_neg h9] at h
  by_cases h10 : i.k = 10
  · rw [if_pos h10] at h
    split at h
    · cases h
    · obtain ⟨rfl, rfl, rfl, _⟩ := h; exact ⟨rfl, by simp, by simp⟩
  rw [if_neg h10] at h
  by_cases h11 : i.k = 11
  · rw [if_pos h11] at h
    obtain ⟨rfl, rfl, rfl, _⟩ := h; exact ⟨rfl, by simp, by simp⟩
  rw [if_neg h11] at h
  by_cases h12 : i.k = 12
  · rw [if_pos h12] at h
    obtain ⟨rfl, rfl, rfl, _⟩ := h; exact ⟨rfl, by simp, by simp⟩
  rw [if_neg h12] at h
  by_cases h13 : i.k = 13
  · rw [if_pos h13] at h
    obtain ⟨rfl, rfl, rfl, _⟩ := h; exact ⟨rfl, by simp, by simp⟩
  rw [if_neg h13] at h
  simp only [Option.some.injEq, Prod.mk.injEq] at h
  obtain ⟨rfl, rfl, rfl, _⟩ := h
  refine ⟨?_, rfl, by simp⟩
  repeat' split
  all_goals rfl

theorem setGood {m : M} {k : Nat} {t' : Th} {own : List Int} {ev : List Ev} {mem : List Int} (hg : GoodM m) (ho : own.length = m.own.length) (ht : ∀ t, m.ths[k]? = some t → t'.code = t.code) : GoodM ⟨m.ths.set k t', mem, own, ev, m.room⟩ := by
  intro j u hj ins hin
  dsimp only at hj ⊢
  rw [ho]
  by_cases hjk : k = j
  · subst hjk
    rw [List.getElem?_set] at hj
    simp only [if_true] at hj
    split at hj
    · obtain rfl := Option.some.inj hj
      have hlt : k < m.ths.length := by assumption
      have h1 : m.ths[k]? = some m.ths[k] := by simp [hlt]
      have hc := ht _ h1
      rw [hc] at hin ⊢
      exact hg k _ h1 ins hin
    · cases hj
  · rw [List.getElem?_set_ne hjk] at hj
    exact hg j u hj ins hin

theorem th_get {m : M} {who : Int} {t : Th} (h : m.th who = some t) : m.ths[who.toNat]? = some t := by
  unfold M.th at h
  split at h
  · exact h
  · cases h

theorem step_good {m : M} (hg : GoodM m) (who : Int) : GoodM (m.step who).1 ∧ (m.step who).1.events.length ≤ m.events.length + 1 ∧ (m.step who).1.own.length = m.own.length ∧ (m.step who).1.room = m.room := by
  unfold M.step
  cases ht : m.th who with
  | none => exact ⟨hg, Nat.le_succ _, rfl, rfl⟩
  | some t =>
    dsimp only
    cases hn : t.next with
    | none => exact ⟨hg, Nat.le_succ _, rfl, rfl⟩
    | some i =>
      dsimp only
      cases hd : doIns m who t i with
      | none => exact ⟨hg, Nat.le_succ _, rfl, rfl⟩
      | some r =>
        obtain ⟨t', own, ev, k⟩ := r
        obtain ⟨h1, h2, h3⟩ := doIns_keeps hd
        exact ⟨setGood hg h2 (fun u hu => by rw [th_get ht] at hu; obtain rfl := Option.some.inj hu; exact h1), h3, h2, rfl⟩

theorem flush_good {m : M} (hg : GoodM m) (who : Int) : GoodM (m.flush who).1 ∧ (m.flush who).1.events.length = m.events.length ∧ (m.flush who).1.own.length = m.own.length ∧ (m.flush who).1.room = m.room := by
  unfold M.flush
  cases ht : m.th who with
  | none => exact ⟨hg, rfl, rfl, rfl⟩
  | some t =>
    dsimp only
    cases hw : t.wait with
    | nil => exact ⟨hg, rfl, rfl, rfl⟩
    | cons e r => exact ⟨setGood hg rfl (fun u hu => by rw [th_get ht] at hu; obtain rfl := Option.some.inj hu; rfl), rfl, rfl, rfl⟩

theorem start_good {codes : List (List Ins)} {words locks room : Nat} {mem : List Int} (h : ∀ c ∈ codes, ∀ i ∈ c, insOk c.length locks i) : GoodM (start codes words mem locks room) := by
  intro j u hj ins hin
  unfold start at hj
  simp only [List.getElem?_map, Option.map_eq_some_iff] at hj
  obtain ⟨c, hc, rfl⟩ := hj
  have := h c (List.mem_of_getElem? hc) ins hin
  simpa [newTh, start] using this
end Go.Proofs.Ytbfeopakmjcapaa.Tso
