/-
  Arguments that came in: rows of instructions' rows, read as cells; a struct with a row of numbers in it.
-/
import Derived.Test.YtfekjgkhagcjgaaOpen
import Derived.Test.YtfekjgkhagcjgaaIns
namespace Go.Proofs.Ytfekjgkhagcjgaa.Seq
open Go.RowKit Go.ChangeShapes Go.WideShapes Go.Deep

section
variable {H : Type} {enc : TypeId × Value → H} {P : Program} {w : World} {base : Nat} {spare : Nat → Bool} {held : Bool}

def insOf (r : List Int) : Ins := ⟨r.getD 0 0, r.getD 1 0, r.getD 2 0, r.getD 3 0, r.getD 4 0, r.getD 5 0, r.getD 6 0⟩

theorem ints_ins {r : List Int} (h : r.length = 7) : ints r = insC (insOf r) := by
  obtain ⟨a, b, c, d, e, f, g, rfl⟩ : ∃ a b c d e f g, r = [a, b, c, d, e, f, g] := by
    match r, h with
    | [a, b, c, d, e, f, g], _ => exact ⟨a, b, c, d, e, f, g, rfl⟩
  rfl

theorem codeC_rows : ∀ (rows : List (List Int)), (∀ r ∈ rows, r.length = 7) → ints rows.flatten = codeC (rows.map insOf)
  | [], _ => rfl
  | r :: rows, h => by
    rw [List.flatten_cons, ints_append, List.map_cons]
    unfold codeC
    rw [List.flatMap_cons, ← ints_ins (h r (by simp))]
    congr 1
    exact codeC_rows rows (fun r hr => h r (by simp [hr]))

/-- A slice of slices of structs of seven whole numbers. -/
theorem open_codes {t e s : TypeId} {fs : Array Field} {fuel : Nat} {cs : List Value} {x : DataW H × List MemPlace} (ht : P.underlying t = some (.slice e)) (he : P.underlying e = some (.slice s)) (hs : P.underlying s = some (.struct fs))
    (hE : P.cellsOf e = 1) (hone : oneCellFields P fs = true) (hC : P.cellsOf s = fs.size) (hint : allI64 P fs = true) (h7 : fs.size = 7) (h : DataW.trod enc P w base spare held fuel t cs = some x) :
    ∃ (ao : Option Addr) (cap : Nat) (qs : List ((Option Addr × Nat) × List Ins)), cs = [.slice ao qs.length cap] ∧ qs.length ≤ maxLen ∧ Codes w (fun k => k < w.heap.size) ao qs ∧ (ao = none → qs.length = 0) ∧ ∀ q ∈ qs, q.2.length ≤ maxLen := by
  rcases open_slice ht h with ⟨rfl, _⟩ | ⟨a, len, cap, m, fu, D, Pl, rfl, hb, hl, hm, hmm, hx, hi⟩
  · exact ⟨none, 0, [], rfl, by simp, ⟨⟨by simp, .inl rfl⟩, fun q hq => by simp at hq⟩, fun _ => rfl, fun q hq => by simp at hq⟩
  · have hlm : len ≤ m := by rw [hmm]; split <;> omega
    have row : ∀ i, i < len → ∃ q : (Option Addr × Nat) × List Ins, w.cell? (a.add i) = some (.slice q.1.1 q.2.length q.1.2) ∧ Vw w 7 (fun k => k < w.heap.size) q.1.1 q.2.length (codeC q.2) ∧ (q.1.1 = none → q.2.length = 0) ∧ q.2.length ≤ maxLen := by
      intro i hi'
      obtain ⟨got, hgot, htr⟩ := hi i (by omega)
      obtain ⟨_, hgl, hcell⟩ := World.cells?_some hgot
      rw [hE] at hgl hcell
      obtain ⟨ai, ci, rows, hcs, hrl, hcm, hw, hv, hn⟩ := open_rows he hs hone hC hint (by omega) htr
      rw [h7] at hv hw
      refine ⟨((ai, ci), rows.map insOf), ?_, ?_, ?_, ?_⟩
      · have := hcell 0 (by omega)
        rw [hcs] at this
        rw [Go.Deep.add_add, Nat.mul_one, Nat.add_zero] at this
        rw [this]
        simp
      · rw [List.length_map, ← codeC_rows rows (fun r hr => (hw r hr).1)]
        exact hv
      · intro hh
        rw [List.length_map]
        exact hn hh
      · rw [List.length_map]; omega
    let G : Nat → (Option Addr × Nat) × List Ins := fun i => if h : i < len then (row i h).choose else default
    have hG : ∀ i, i < len → w.cell? (a.add i) = some (.slice (G i).1.1 (G i).2.length (G i).1.2) ∧ Vw w 7 (fun k => k < w.heap.size) (G i).1.1 (G i).2.length (codeC (G i).2) ∧ ((G i).1.1 = none → (G i).2.length = 0) ∧ (G i).2.length ≤ maxLen := by
      intro i h
      have hs := (row i h).choose_spec
      have e : G i = (row i h).choose := by simp only [G, h, dite_true]
      rw [e]
      exact hs
    have hlen : ((List.range len).map G).length = len := by simp
    refine ⟨some a, cap, (List.range len).map G, by rw [hlen], by rw [hlen]; omega, ⟨⟨by simp, ?_⟩, ?_⟩, (fun h => by cases h), ?_⟩
    · by_cases h0 : len = 0
      · left; subst h0; rfl
      · right
        have hc0 := (hG 0 (by omega)).1
        have hsp : a.spot = none := by
          rw [show a.add 0 = a from rfl] at hc0
          unfold World.cell? at hc0
          split at hc0
          · cases hs : a.spot with
            | none => rfl
            | some s => rw [hs] at hc0; simp at hc0
          · cases hc0
        obtain ⟨ab, ao, asp⟩ := a
        simp only at hsp
        subst hsp
        refine ⟨ab, ao, rfl, World.block_lt_of_cell? _ _ hc0, fun j u hj => ?_⟩
        have hjl : j < len := by
          rcases Nat.lt_or_ge j len with h | h
          · exact h
          · rw [List.getElem?_eq_none (by simp; exact h)] at hj; cases hj
        have := (hG j hjl).1
        rw [Addr.add_lit] at this
        rw [this]
        simp [hjl] at hj
        rw [hj]
    · intro q hq
      obtain ⟨i, hi', rfl⟩ := List.mem_map.1 hq
      have := hG i (List.mem_range.1 hi')
      exact ⟨this.2.1, this.2.2.1⟩
    · intro q hq
      obtain ⟨i, hi', rfl⟩ := List.mem_map.1 hq
      exact (hG i (List.mem_range.1 hi')).2.2.2

/-- A struct of a slice of whole numbers, and three whole numbers. -/
theorem open_rest {t : TypeId} {f0 f1 f2 f3 : Field} {e : TypeId} {fuel : Nat} {cs : List Value} {x : DataW H × List MemPlace} (ht : P.underlying t = some (.struct #[f0, f1, f2, f3])) (h0 : P.underlying f0.type = some (.slice e)) (he : P.underlying e = some (.int .i64)) (hC : P.cellsOf e = 1)
    (h1 : P.underlying f1.type = some (.int .i64)) (h2 : P.underlying f2.type = some (.int .i64)) (h3 : P.underlying f3.type = some (.int .i64))
    (ho : f0.offset = 0 ∧ f1.offset = 1 ∧ f2.offset = 2 ∧ f3.offset = 3 ∧ P.cellsOf f0.type = 1 ∧ P.cellsOf f1.type = 1 ∧ P.cellsOf f2.type = 1 ∧ P.cellsOf f3.type = 1 ∧ P.cellsOf t = 4) (h : DataW.trod enc P w base spare held fuel t cs = some x) :
    ∃ (ao : Option Addr) (cap : Nat) (l : List Int) (a b c : Int), cs = [.slice ao l.length cap, .int .i64 a, .int .i64 b, .int .i64 c] ∧ l.length ≤ maxLen ∧ Vw w 1 (fun k => k < w.heap.size) ao l.length (ints l) ∧ (ao = none → l.length = 0) ∧
      (Lit.int .i64 a).wf = true ∧ (Lit.int .i64 b).wf = true ∧ (Lit.int .i64 c).wf = true := by
  obtain ⟨o0, o1, o2, o3, c0, c1, c2, c3, ct⟩ := ho
  obtain ⟨xs, n, _, rfl, hl, hlen, hf⟩ := DataW.trod_struct ht h
  rw [ct] at hl
  match cs, hl with
  | [v0, v1, v2, v3], _ =>
    match xs, hlen with
    | [y0, y1, y2, y3], _ =>
      have g0 := hf 0 f0 rfl
      have g1 := hf 1 f1 rfl
      have g2 := hf 2 f2 rfl
      have g3 := hf 3 f3 rfl
      rw [o0, c0] at g0
      rw [o1, c1] at g1
      rw [o2, c2] at g2
      rw [o3, c3] at g3
      simp only [List.drop_zero, List.drop_succ_cons, List.take_succ_cons, List.take_zero, List.getElem?_cons_zero, List.getElem?_cons_succ] at g0 g1 g2 g3
      obtain ⟨ao, cap, l, hcs, k1, k2, k3, k4, k5⟩ := open_nums h0 he hC g0
      obtain ⟨a, ha, _, wa⟩ := DataW.trod_int h1 g1
      obtain ⟨b, hb, _, wb⟩ := DataW.trod_int h2 g2
      obtain ⟨c, hc, _, wc⟩ := DataW.trod_int h3 g3
      simp at hcs ha hb hc
      subst hcs ha hb hc
      exact ⟨ao, cap, l, a, b, c, rfl, by omega, k4, k5, wa, wb, wc⟩
end
end Go.Proofs.Ytfekjgkhagcjgaa.Seq
