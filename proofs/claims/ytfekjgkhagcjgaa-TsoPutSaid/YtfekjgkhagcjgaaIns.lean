/-
  Instructions and codes as they lie, for seats without package seq.
-/
import Derived.Test.YtfekjgkhagcjgaaMem
namespace Go.Proofs.Ytfekjgkhagcjgaa.Seq
open Go.RowKit

/-- An instruction. -/
structure Ins where
  (k op d a b n to : Int)
deriving DecidableEq, Inhabited

def insC (i : Ins) : List Value := [.int .i64 i.k, .int .i64 i.op, .int .i64 i.d, .int .i64 i.a, .int .i64 i.b, .int .i64 i.n, .int .i64 i.to]
def codeC (c : List Ins) : List Value := c.flatMap insC
theorem codeC_length (c : List Ins) : (codeC c).length = c.length * 7 := by
  induction c with
  | nil => rfl
  | cons i c ih => simp [codeC, insC, Nat.add_mul] at ih ⊢; omega

theorem codeC_get (c : List Ins) : ∀ (j : Nat) (i : Ins), c[j]? = some i → ∀ (d : Nat) (v : Value), (insC i)[d]? = some v → (codeC c)[j * 7 + d]? = some v := by
  induction c with
  | nil => intro j i h; simp at h
  | cons e c ih =>
    intro j i h d v hv
    have hd : d < 7 := by have := (List.getElem?_eq_some_iff.1 hv).1; simpa [insC] using this
    cases j with
    | zero =>
      simp at h
      subst h
      simp only [codeC, List.flatMap_cons, Nat.zero_mul, Nat.zero_add]
      rw [List.getElem?_append_left (by simpa [insC] using hd)]
      exact hv
    | succ j =>
      have := ih j i (by simpa using h) d v hv
      simp only [codeC, List.flatMap_cons]
      rw [List.getElem?_append_right (by simp [insC]; omega)]
      rw [show (j + 1) * 7 + d - (insC e).length = j * 7 + d by simp [insC]; omega]
      exact this

theorem codeC_one (c : List Ins) : ∀ u ∈ codeC c, u.oneCell' = true := by
  intro u hu
  obtain ⟨i, _, hi⟩ := List.mem_flatMap.1 hu
  simp [insC] at hi
  rcases hi with rfl | rfl | rfl | rfl | rfl | rfl | rfl <;> rfl

/-- Codes as they lie: the row of slices, and each of them. -/
structure Codes (w : World) (R : Nat → Prop) (ao : Option Addr) (qs : List ((Option Addr × Nat) × List Ins)) : Prop where
  vw : Vw w 1 R ao qs.length (qs.map fun q => .slice q.1.1 q.2.length q.1.2)
  inn : ∀ q ∈ qs, Vw w 7 R q.1.1 q.2.length (codeC q.2) ∧ (q.1.1 = none → q.2.length = 0)

theorem Codes.fr {w w1 : World} {R S : Nat → Prop} {ao : Option Addr} {qs : List ((Option Addr × Nat) × List Ins)} (h : Codes w R ao qs) (hf : Fr S w w1) (hn : ∀ k, R k → ¬ S k) : Codes w1 R ao qs :=
  ⟨h.vw.fr hf hn, fun q hq => ⟨(h.inn q hq).1.fr hf hn, (h.inn q hq).2⟩⟩

theorem Codes.cell {w : World} {R : Nat → Prop} {ao : Option Addr} {qs : List ((Option Addr × Nat) × List Ins)} (h : Codes w R ao qs) {k : Nat} (hk : k < qs.length) :
    ∃ r off, ao = some ⟨r, off, none⟩ ∧ w.cell? ⟨r, off + k, none⟩ = some (.slice qs[k].1.1 qs[k].2.length qs[k].1.2) := by
  have hne : (qs.map fun q => Value.slice q.1.1 q.2.length q.1.2) ≠ [] := fun e => by have := congrArg List.length e; simp at this; subst this; simp at hk
  obtain ⟨r, off, e, _, hc⟩ := h.vw.cell hne
  exact ⟨r, off, e, hc k _ (by simp [hk])⟩

end Go.Proofs.Ytfekjgkhagcjgaa.Seq
