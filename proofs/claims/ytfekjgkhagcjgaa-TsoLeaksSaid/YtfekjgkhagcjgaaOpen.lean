/-
  Arguments that came in: a slice of numbers, and a slice of structs of numbers, read as cells; no condition.
-/
import Derived.Test.YtfekjgkhagcjgaaMem
import Derived.Deep.Slices
import Derived.Deep.Fields
import Derived.ChangeSame
import Derived.ProofKit
namespace Go.Proofs.Ytfekjgkhagcjgaa
open Go.RowKit Go.ChangeShapes Go.WideShapes Go.Deep

section
variable {H : Type} {enc : TypeId × Value → H} {P : Program} {w : World} {base : Nat} {spare : Nat → Bool} {held : Bool}
/-- All fields are int64 or int. -/
def allI64 (P : Program) (fs : Array Field) : Bool := fs.all fun f => match P.underlying f.type with | some (.int .i64) => true | _ => false
theorem allI64_spec {P : Program} {fs : Array Field} (h : allI64 P fs = true) (j : Nat) (f : Field) (hj : fs[j]? = some f) : P.underlying f.type = some (.int .i64) := by
  have := Array.all_eq_true_iff_forall_mem.1 h f (Array.mem_of_getElem? hj)
  split at this
  · assumption
  · cases this

/-- A slice of structs of whole numbers. -/
theorem open_rows {t e : TypeId} {fs : Array Field} {fuel : Nat} {cs : List Value} {x : DataW H × List MemPlace} (ht : P.underlying t = some (.slice e)) (he : P.underlying e = some (.struct fs))
    (hone : oneCellFields P fs = true) (hC : P.cellsOf e = fs.size) (hint' : allI64 P fs = true) (hpos : 0 < fs.size) (h : DataW.trod enc P w base spare held fuel t cs = some x) :
    ∃ (ao : Option Addr) (cap : Nat) (rows : List (List Int)), cs = [.slice ao rows.length cap] ∧ rows.length ≤ cap ∧ cap ≤ maxLen ∧ (∀ r ∈ rows, r.length = fs.size ∧ ∀ n ∈ r, (Lit.int .i64 n).wf = true) ∧
      Vw w fs.size (fun k => k < w.heap.size) ao rows.length (ints rows.flatten) ∧ (ao = none → rows.length = 0) := by
  have hint := fun j f => allI64_spec hint' j f
  rcases open_slice ht h with ⟨rfl, _⟩ | ⟨a, len, cap, m, fu, D, Pl, rfl, hb, hl, hm, hmm, hx, hi⟩
  · exact ⟨none, 0, [], rfl, Nat.le_refl _, by unfold maxLen; omega, by simp, ⟨by simp [ints], .inl rfl⟩, fun _ => rfl⟩
  · have hlm : len ≤ m := by rw [hmm]; split <;> omega
    have row : ∀ i, i < len → ∃ r : List Int, r.length = fs.size ∧ (∀ n ∈ r, (Lit.int .i64 n).wf = true) ∧ ∀ j (hj : j < r.length), w.cell? (a.add (i * fs.size + j)) = some (.int .i64 r[j]) := by
      intro i hi'
      obtain ⟨got, hgot, htr⟩ := hi i (by omega)
      obtain ⟨_, fu2, _, _, hsize, _, hpart⟩ := DataW.trod_struct he htr
      obtain ⟨_, hgl, hcell⟩ := World.cells?_some hgot
      rw [hC] at hgl hcell
      have num : ∀ j, j < fs.size → ∃ q : Int, (Lit.int .i64 q).wf = true ∧ w.cell? (a.add (i * fs.size + j)) = some (.int .i64 q) := by
        intro j hj
        have hfj : fs[j]? = some fs[j] := by simp [hj]
        obtain ⟨hoff, hcnt⟩ := hone_of hone j fs[j] hfj
        have hpj := hpart j fs[j] hfj
        rw [hoff, hcnt, List.drop_eq_getElem_cons (show j < got.length by omega), List.take_succ_cons, List.take_zero] at hpj
        obtain ⟨q, hq, _, hw⟩ := DataW.trod_int (hint j fs[j] hfj) (hpj.trans (List.getElem?_eq_getElem (by omega)))
        refine ⟨q, hw, ?_⟩
        have hcj := hcell j hj
        rw [Go.Deep.add_add] at hcj
        rw [hcj, List.getElem?_eq_getElem (show j < got.length by omega)]
        simpa using hq
      let g : Nat → Int := fun j => if h : j < fs.size then (num j h).choose else 0
      refine ⟨(List.range fs.size).map g, by simp, fun n hn => ?_, fun j hj => ?_⟩
      · obtain ⟨j, hj, rfl⟩ := List.mem_map.1 hn
        have hj' := List.mem_range.1 hj
        simp only [g, hj', dite_true]
        exact (num j hj').choose_spec.1
      · have hj' : j < fs.size := by simpa using hj
        simp only [List.getElem_map, List.getElem_range, g, hj', dite_true]
        exact (num j hj').choose_spec.2
    let G : Nat → List Int := fun i => if h : i < len then (row i h).choose else []
    have hG : ∀ i, i < len → (G i).length = fs.size ∧ (∀ n ∈ G i, (Lit.int .i64 n).wf = true) ∧ ∀ j (hj : j < (G i).length), w.cell? (a.add (i * fs.size + j)) = some (.int .i64 (G i)[j]) := by
      intro i h
      have hs := (row i h).choose_spec
      have e : G i = (row i h).choose := by simp only [G, h, dite_true]
      rw [e]
      exact hs
    have flat : ∀ k, k ≤ len → (((List.range k).map G).flatten).length = k * fs.size ∧ ∀ j u, (ints ((List.range k).map G).flatten)[j]? = some u → w.cell? (a.add j) = some u := by
      intro k
      induction k with
      | zero => intro _; simp [ints]
      | succ k ih =>
        intro hk
        obtain ⟨h1, h2⟩ := ih (by omega)
        obtain ⟨g1, _, g3⟩ := hG k (by omega)
        have e : ((List.range (k + 1)).map G).flatten = ((List.range k).map G).flatten ++ G k := by simp [List.range_succ]
        rw [e]
        refine ⟨by rw [List.length_append, h1, g1, Nat.succ_mul], fun j u hj => ?_⟩
        rw [ints_append] at hj
        by_cases hjl : j < k * fs.size
        · rw [List.getElem?_append_left (by rw [ints_length, h1]; exact hjl)] at hj
          exact h2 j u hj
        · rw [List.getElem?_append_right (by rw [ints_length, h1]; omega), ints_length, h1] at hj
          have hj2 : j - k * fs.size < (G k).length := by
            rcases Nat.lt_or_ge (j - k * fs.size) (G k).length with h | h
            · exact h
            · rw [List.getElem?_eq_none (by rw [ints_length]; exact h)] at hj; cases hj
          have := g3 (j - k * fs.size) hj2
          rw [show k * fs.size + (j - k * fs.size) = j by omega] at this
          rw [this]
          simp [ints, hj2] at hj
          rw [hj]
    have hlen : ((List.range len).map G).length = len := by simp
    obtain ⟨f1, f2⟩ := flat len (Nat.le_refl _)
    refine ⟨some a, cap, (List.range len).map G, by rw [hlen], by rw [hlen]; exact hl, hm, fun r hr => ?_, ⟨by rw [ints_length, f1, hlen], ?_⟩, fun h => by cases h⟩
    · obtain ⟨i, hi', rfl⟩ := List.mem_map.1 hr
      obtain ⟨g1, g2, _⟩ := hG i (List.mem_range.1 hi')
      exact ⟨g1, g2⟩
    · by_cases h0 : len = 0
      · left; subst h0; rfl
      · right
        have hpos2 : 0 < len * fs.size := Nat.mul_pos (by omega) hpos
        have hc0 := f2 0 _ (ints_get' _ 0 (by omega))
        have hsp : a.spot = none := by
          rw [show a.add 0 = a from rfl] at hc0
          unfold World.cell? at hc0
          split at hc0
          · cases hs : a.spot with
            | none => rfl
            | some s => rw [hs] at hc0; simp at hc0
          · cases hc0
        obtain ⟨ab, ao, as⟩ := a
        simp only at hsp
        subst hsp
        refine ⟨ab, ao, rfl, ?_, fun j u hj => by have := f2 j u hj; rwa [Addr.add_lit] at this⟩
        have := World.block_lt_of_cell? _ _ hc0
        exact this

/-- A slice of whole numbers. -/
theorem open_nums {t e : TypeId} {fuel : Nat} {cs : List Value} {x : DataW H × List MemPlace} (ht : P.underlying t = some (.slice e)) (he : P.underlying e = some (.int .i64)) (hC : P.cellsOf e = 1)
    (h : DataW.trod enc P w base spare held fuel t cs = some x) :
    ∃ (ao : Option Addr) (cap : Nat) (l : List Int), cs = [.slice ao l.length cap] ∧ l.length ≤ cap ∧ cap ≤ maxLen ∧ (∀ n ∈ l, (Lit.int .i64 n).wf = true) ∧ Vw w 1 (fun k => k < w.heap.size) ao l.length (ints l) ∧ (ao = none → l.length = 0) := by
  rcases open_ints ht he hC h with ⟨rfl, _⟩ | ⟨a, len, cap, zs, rfl, _, hl, hm, hz, _, hcell, hwz⟩
  · exact ⟨none, 0, [], rfl, Nat.le_refl _, by unfold maxLen; omega, by simp, ⟨by simp [ints], .inl rfl⟩, fun _ => rfl⟩
  · have hlz : len ≤ zs.length := by rw [hz]; split <;> omega
    have hlen : (zs.take len).length = len := by simp; omega
    refine ⟨some a, cap, zs.take len, by rw [hlen], by omega, hm, fun n hn => hwz n (List.mem_of_mem_take hn), ⟨by rw [ints_length]; omega, ?_⟩, fun h => by cases h⟩
    by_cases h0 : len = 0
    · left; subst h0; rfl
    · right
      have hc0 := hcell 0 (by omega)
      have hsp : a.spot = none := by
        rw [show a.add 0 = a from rfl] at hc0
        unfold World.cell? at hc0
        split at hc0
        · cases hs : a.spot with
          | none => rfl
          | some s => rw [hs] at hc0; simp at hc0
        · cases hc0
      obtain ⟨ab, ao, as⟩ := a
      simp only at hsp
      subst hsp
      refine ⟨ab, ao, rfl, World.block_lt_of_cell? _ _ hc0, fun j u hj => ?_⟩
      have hjl : j < len := by
        rcases Nat.lt_or_ge j len with h | h
        · exact h
        · rw [List.getElem?_eq_none (by rw [ints_length]; omega)] at hj; cases hj
      have := hcell j (by omega)
      rw [Addr.add_lit] at this
      rw [this]
      simp [ints, hjl, show j < zs.length by omega] at hj
      rw [← hj]
      simp [List.getD, show j < zs.length by omega]

/-- A row of three numbers. -/
def tup3 (r : List Int) : Int × Int × Int := (r.getD 0 0, r.getD 1 0, r.getD 2 0)
def tup2 (r : List Int) : Int × Int := (r.getD 0 0, r.getD 1 0)
end
end Go.Proofs.Ytfekjgkhagcjgaa
