/-
  Arguments that came in: a slice of numbers, and a slice of structs of numbers, read as cells; no condition.
-/
import Derived.Test.YtbfeopakmjcapaaMem
import Derived.Deep.Slices
import Derived.Deep.Fields
import Derived.ChangeSame
import Derived.ProofKit
import Derived.ChangeArms
set_option linter.unusedVariables false
set_option linter.unusedSimpArgs false
set_option maxHeartbeats 4000000
set_option maxRecDepth 8000
namespace Go.Proofs.Ytbfeopakmjcapaa
open Go.RowKit Go.ChangeShapes Go.WideShapes Go.Deep

section
variable {H : Type} {enc : TypeId × Value → H} {P : Program} {w : World} {base : Nat} {spare : Nat → Bool} {held : Bool}
/-- All fields are int64 or int. -/
def allI64 (P : Program) (fs : Array Field) : Bool := fs.all fun f => match P.underlying f.type with | some (.int .i64) => true | _ => false
theorem allI64_spec {P : Program} {fs : Array Field} (h : allI64 P fs = true) (j : Nat) (f : Field) (hj : fs[j]? = some f) : P.underlying f.type = some (.int .i64) := by
  have := Array.all_eq_true_iff_forall_mem.1 h f (Array.mem_of_getElem? hj)
  split at this
  · assumption
  · cases this

/-- A slice of structs of whole numbers. -/
theorem open_rows {t e : TypeId} {fs : Array Field} {fuel : Nat} {cs : List Value} {x : DataW H × List MemPlace} (ht : P.underlying t = some (.slice e)) (he : P.underlying e = some (.struct fs))
    (hone : oneCellFields P fs = true) (hC : P.cellsOf e = fs.size) (hint' : allI64 P fs = true) (hpos : 0 < fs.size) (h : DataW.trod enc P w base spare held fuel t cs = some x) :
    ∃ (ao : Option Addr) (cap : Nat) (rows : List (List Int)), cs = [.slice ao rows.length cap] ∧ rows.length ≤ cap ∧ cap ≤ maxLen ∧ (∀ r ∈ rows, r.length = fs.size ∧ ∀ n ∈ r, (Lit.int .i64 n).wf = true) ∧
      Vw w fs.size (fun k => k < w.heap.size) ao rows.length (ints rows.flatten) ∧ (ao = none → rows.length = 0) := by
  have hint := fun j f => allI64_spec hint' j f
  rcases open_slice ht h with ⟨rfl, _⟩ | ⟨a, len, cap, m, fu, D, Pl, rfl, hb, hl, hm, hmm, hx, hi⟩
  · exact ⟨none, 0, [], rfl, Nat.le_refl _, by unfold maxLen; omega, by simp, ⟨by simp [ints], .inl rfl⟩, fun _ => rfl⟩
  · have hlm : len ≤ m := by rw [hmm]; split <;> omega
    have row : ∀ i, i < len → ∃ r : List Int, r.length = fs.size ∧ (∀ n ∈ r, (Lit.int .i64 n).wf = true) ∧ ∀ j (hj : j < r.length), w.cell? (a.add (i * fs.size + j)) = some (.int .i64 r[j]) := by
      intro i hi'
      obtain ⟨got, hgot, htr⟩ := hi i (by omega)
      obtain ⟨_, fu2, _, _, hsize, _, hpart⟩ := DataW.trod_struct he htr
      obtain ⟨_, hgl, hcell⟩ := World.cells?_some hgot
      rw [hC] at hgl hcell
      have num : ∀ j, j < fs.size → ∃ q : Int, (Lit.int .i64 q).wf = true ∧ w.cell? (a.add (i * fs.size + j)) = some (.int .i64 q) := by
        intro j hj
        have hfj : fs[j]? = some fs[j] := by simp [hj]
        obtain ⟨hoff, hcnt⟩ := hone_of hone j fs[j] hfj
        have hpj := hpart j fs[j] hfj
        rw [hoff, hcnt, List.drop_eq_getElem_cons (show j < got.length by omega), List.take_succ_cons, List.take_zero] at hpj
        obtain ⟨q, hq, _, hw⟩ := DataW.trod_int (hint j fs[j] hfj) (hpj.trans (List.getElem?_eq_getElem (by omega)))
        refine ⟨q, hw, ?_⟩
        have hcj := hcell j hj
        rw [Go.Deep.add_add] at hcj
        rw [hcj, List.getElem?_eq_getElem (show j < got.length by omega)]
        simpa using hq
      let g : Nat → Int := fun j => if h : j < fs.size then (num j h).choose else 0
      refine ⟨(List.range fs.size).map g, by simp, fun n hn => ?_, fun j hj => ?_⟩
      · obtain ⟨j, hj, rfl⟩ := List.mem_map.1 hn
        have hj' := List.mem_range.1 hj
        simp only [g, hj', dite_true]
        exact (num j hj').choose_spec.1
      · have hj' : j < fs.size := by simpa using hj
        simp only [List.getElem_map, List.getElem_range, g, hj', dite_true]
        exact (num j hj').choose_spec.2
    let G : Nat → List Int := fun i => if h : i < len then (row i h).choose else []
    have hG : ∀ i, i < len → (G i).length = fs.size ∧ (∀ n ∈ G i, (Lit.int .i64 n).wf = true) ∧ ∀ j (hj : j < (G i).length), w.cell? (a.add (i * fs.size + j)) = some (.int .i64 (G i)[j]) := by
      intro i h
      have hs := (row i h).choose_spec
      have e : G i = (row i h).choose := by simp only [G, h, dite_true]
      rw [e]
      exact hs
    have flat : ∀ k, k ≤ len → (((List.range k).map G).flatten).length = k * fs.size ∧ ∀ j u, (ints ((List.range k).map G).flatten)[j]? = some u → w.cell? (a.add j) = some u := by
      intro k
      induction k with
      | zero => intro _; simp [ints]
      | succ k ih =>
        intro hk
        obtain ⟨h1, h2⟩ := ih (by omega)
        obtain ⟨g1, _, g3⟩ := hG k (by omega)
        have e : ((List.range (k + 1)).map G).flatten = ((List.range k).map G).flatten ++ G k := by simp [List.range_succ]
        rw [e]
        refine ⟨by rw [List.length_append, h1, g1, Nat.succ_mul], fun j u hj => ?_⟩
        rw [ints_append] at hj
        by_cases hjl : j < k * fs.size
        · rw [List.getElem?_append_left (by rw [ints_length, h1]; exact hjl)] at hj
          exact h2 j u hj
        · rw [List.getElem?_append_right (by rw [ints_length, h1]; omega), ints_length, h1] at hj
          have hj2 : j - k * fs.size < (G k).length := by
            rcases Nat.lt_or_ge (j - k * fs.size) (G k).length with h | h
            · exact h
            · rw [List.getElem?_eq_none (by rw [ints_length]; exact h)] at hj; cases hj
          have := g3 (j - k * fs.size) hj2
          rw [show k * fs.size + (j - k * fs.size) = j by omega] at this
          rw [this]
          simp [ints, hj2] at hj
          rw [hj]
    have hlen : ((List.range len).map G).length = len := by simp
    obtain ⟨f1, f2⟩ := flat len (Nat.le_refl _)
    refine ⟨some a, cap, (List.range len).map G, by rw [hlen], by rw [hlen]; exact hl, hm, fun r hr => ?_, ⟨by rw [ints_length, f1, hlen], ?_⟩, fun h => by cases h⟩
    · obtain ⟨i, hi', rfl⟩ := List.mem_map.1 hr
      obtain ⟨g1, g2, _⟩ := hG i (List.mem_range.1 hi')
      exact ⟨g1, g2⟩
    · by_cases h0 : len = 0
      · left; subst h0; rfl
      · right
        have hpos2 : 0 < len * fs.size := Nat.mul_pos (by omega) hpos
        have hc0 := f2 0 _ (ints_get' _ 0 (by omega))
        have hsp : a.spot = none := by
          rw [show a.add 0 = a from rfl] at hc0
          unfold World.cell? at hc0
          split at hc0
          · cases hs : a.spot with
            | none => rfl
            | some s => rw [hs] at hc0; simp at hc0
          · cases hc0
        obtain ⟨ab, ao, as⟩ := a
        simp only at hsp
        subst hsp
        refine ⟨ab, ao, rfl, ?_, fun j u hj => by have := f2 j u hj; rwa [Addr.add_lit] at this⟩
        have := World.block_lt_of_cell? _ _ hc0
        exact this

/-- A slice of whole numbers. -/
theorem open_nums {t e : TypeId} {fuel : Nat} {cs : List Value} {x : DataW H × List MemPlace} (ht : P.underlying t = some (.slice e)) (he : P.underlying e = some (.int .i64)) (hC : P.cellsOf e = 1)
    (h : DataW.trod enc P w base spare held fuel t cs = some x) :
    ∃ (ao : Option Addr) (cap : Nat) (l : List Int), cs = [.slice ao l.length cap] ∧ l.length ≤ cap ∧ cap ≤ maxLen ∧ (∀ n ∈ l, (Lit.int .i64 n).wf = true) ∧ Vw w 1 (fun k => k < w.heap.size) ao l.length (ints l) ∧ (ao = none → l.length = 0) := by
  rcases open_ints ht he hC h with ⟨rfl, _⟩ | ⟨a, len, cap, zs, rfl, _, hl, hm, hz, _, hcell, hwz⟩
  · exact ⟨none, 0, [], rfl, Nat.le_refl _, by unfold maxLen; omega, by simp, ⟨by simp [ints], .inl rfl⟩, fun _ => rfl⟩
  · have hlz : len ≤ zs.length := by rw [hz]; split <;> omega
    have hlen : (zs.take len).length = len := by simp; omega
    refine ⟨some a, cap, zs.take len, by rw [hlen], by omega, hm, fun n hn => hwz n (List.mem_of_mem_take hn), ⟨by rw [ints_length]; omega, ?_⟩, fun h => by cases h⟩
    by_cases h0 : len = 0
    · left; subst h0; rfl
    · right
      have hc0 := hcell 0 (by omega)
      have hsp : a.spot = none := by
        rw [show a.add 0 = a from rfl] at hc0
        unfold World.cell? at hc0
        split at hc0
        · cases hs : a.spot with
          | none => rfl
          | some s => rw [hs] at hc0; simp at hc0
        · cases hc0
      obtain ⟨ab, ao, as⟩ := a
      simp only at hsp
      subst hsp
      refine ⟨ab, ao, rfl, World.block_lt_of_cell? _ _ hc0, fun j u hj => ?_⟩
      have hjl : j < len := by
        rcases Nat.lt_or_ge j len with h | h
        · exact h
        · rw [List.getElem?_eq_none (by rw [ints_length]; omega)] at hj; cases hj
      have := hcell j (by omega)
      rw [Addr.add_lit] at this
      rw [this]
      simp [ints, hjl, show j < zs.length by omega] at hj
      rw [← hj]
      simp [List.getD, show j < zs.length by omega]

/-- A row of three numbers. -/
def tup3 (r : List Int) : Int × Int × Int := (r.getD 0 0, r.getD 1 0, r.getD 2 0)
def tup2 (r : List Int) : Int × Int := (r.getD 0 0, r.getD 1 0)
end
end Go.Proofs.Ytbfeopakmjcapaa

/-
  Instructions and codes as they lie, for seats without package seq.
-/
namespace Go.Proofs.Ytbfeopakmjcapaa.Seq
open Go.RowKit

/-- An instruction. -/
structure Ins where
  (k op d a b n to : Int)
deriving DecidableEq, Inhabited

def insC (i : Ins) : List Value := [.int .i64 i.k, .int .i64 i.op, .int .i64 i.d, .int .i64 i.a, .int .i64 i.b, .int .i64 i.n, .int .i64 i.to]
def codeC (c : List Ins) : List Value := c.flatMap insC
theorem codeC_length (c : List Ins) : (codeC c).length = c.length * 7 := by
  induction c with
  | nil => rfl
  | cons i c ih => simp [codeC, insC, Nat.add_mul] at ih ⊢; omega

theorem codeC_get (c : List Ins) : ∀ (j : Nat) (i : Ins), c[j]? = some i → ∀ (d : Nat) (v : Value), (insC i)[d]? = some v → (codeC c)[j * 7 + d]? = some v := by
  induction c with
  | nil => intro j i h; simp at h
  | cons e c ih =>
    intro j i h d v hv
    have hd : d < 7 := by have := (List.getElem?_eq_some_iff.1 hv).1; simpa [insC] using this
    cases j with
    | zero =>
      simp at h
      subst h
      simp only [codeC, List.flatMap_cons, Nat.zero_mul, Nat.zero_add]
      rw [List.getElem?_append_left (by simpa [insC] using hd)]
      exact hv
    | succ j =>
      have := ih j i (by simpa using h) d v hv
      simp only [codeC, List.flatMap_cons]
      rw [List.getElem?_append_right (by simp [insC]; omega)]
      rw [show (j + 1) * 7 + d - (insC e).length = j * 7 + d by simp [insC]; omega]
      exact this

theorem codeC_one (c : List Ins) : ∀ u ∈ codeC c, u.oneCell' = true := by
  intro u hu
  obtain ⟨i, _, hi⟩ := List.mem_flatMap.1 hu
  simp [insC] at hi
  rcases hi with rfl | rfl | rfl | rfl | rfl | rfl | rfl <;> rfl

/-- Codes as they lie: the row of slices, and each of them. -/
structure Codes (w : World) (R : Nat → Prop) (ao : Option Addr) (qs : List ((Option Addr × Nat) × List Ins)) : Prop where
  vw : Vw w 1 R ao qs.length (qs.map fun q => .slice q.1.1 q.2.length q.1.2)
  inn : ∀ q ∈ qs, Vw w 7 R q.1.1 q.2.length (codeC q.2) ∧ (q.1.1 = none → q.2.length = 0)

theorem Codes.fr {w w1 : World} {R S : Nat → Prop} {ao : Option Addr} {qs : List ((Option Addr × Nat) × List Ins)} (h : Codes w R ao qs) (hf : Fr S w w1) (hn : ∀ k, R k → ¬ S k) : Codes w1 R ao qs :=
  ⟨h.vw.fr hf hn, fun q hq => ⟨(h.inn q hq).1.fr hf hn, (h.inn q hq).2⟩⟩

theorem Codes.cell {w : World} {R : Nat → Prop} {ao : Option Addr} {qs : List ((Option Addr × Nat) × List Ins)} (h : Codes w R ao qs) {k : Nat} (hk : k < qs.length) :
    ∃ r off, ao = some ⟨r, off, none⟩ ∧ w.cell? ⟨r, off + k, none⟩ = some (.slice qs[k].1.1 qs[k].2.length qs[k].1.2) := by
  have hne : (qs.map fun q => Value.slice q.1.1 q.2.length q.1.2) ≠ [] := fun e => by have := congrArg List.length e; simp at this; subst this; simp at hk
  obtain ⟨r, off, e, _, hc⟩ := h.vw.cell hne
  exact ⟨r, off, e, hc k _ (by simp [hk])⟩

end Go.Proofs.Ytbfeopakmjcapaa.Seq

/-
  Arguments that came in: rows of instructions' rows, read as cells; a struct with a row of numbers in it.
-/
namespace Go.Proofs.Ytbfeopakmjcapaa.Seq
open Go.RowKit Go.ChangeShapes Go.WideShapes Go.Deep

section
variable {H : Type} {enc : TypeId × Value → H} {P : Program} {w : World} {base : Nat} {spare : Nat → Bool} {held : Bool}

def insOf (r : List Int) : Ins := ⟨r.getD 0 0, r.getD 1 0, r.getD 2 0, r.getD 3 0, r.getD 4 0, r.getD 5 0, r.getD 6 0⟩

theorem ints_ins {r : List Int} (h : r.length = 7) : ints r = insC (insOf r) := by
  obtain ⟨a, b, c, d, e, f, g, rfl⟩ : ∃ a b c d e f g, r = [a, b, c, d, e, f, g] := by
    match r, h with
    | [a, b, c, d, e, f, g], _ => exact ⟨a, b, c, d, e, f, g, rfl⟩
  rfl

theorem codeC_rows : ∀ (rows : List (List Int)), (∀ r ∈ rows, r.length = 7) → ints rows.flatten = codeC (rows.map insOf)
  | [], _ => rfl
  | r :: rows, h => by
    rw [List.flatten_cons, ints_append, List.map_cons]
    unfold codeC
    rw [List.flatMap_cons, ← ints_ins (h r (by simp))]
    congr 1
    exact codeC_rows rows (fun r hr => h r (by simp [hr]))

/-- A slice of slices of structs of seven whole numbers. -/
theorem open_codes {t e s : TypeId} {fs : Array Field} {fuel : Nat} {cs : List Value} {x : DataW H × List MemPlace} (ht : P.underlying t = some (.slice e)) (he : P.underlying e = some (.slice s)) (hs : P.underlying s = some (.struct fs))
    (hE : P.cellsOf e = 1) (hone : oneCellFields P fs = true) (hC : P.cellsOf s = fs.size) (hint : allI64 P fs = true) (h7 : fs.size = 7) (h : DataW.trod enc P w base spare held fuel t cs = some x) :
    ∃ (ao : Option Addr) (cap : Nat) (qs : List ((Option Addr × Nat) × List Ins)), cs = [.slice ao qs.length cap] ∧ qs.length ≤ maxLen ∧ Codes w (fun k => k < w.heap.size) ao qs ∧ (ao = none → qs.length = 0) ∧ ∀ q ∈ qs, q.2.length ≤ maxLen := by
  rcases open_slice ht h with ⟨rfl, _⟩ | ⟨a, len, cap, m, fu, D, Pl, rfl, hb, hl, hm, hmm, hx, hi⟩
  · exact ⟨none, 0, [], rfl, by simp, ⟨⟨by simp, .inl rfl⟩, fun q hq => by simp at hq⟩, fun _ => rfl, fun q hq => by simp at hq⟩
  · have hlm : len ≤ m := by rw [hmm]; split <;> omega
    have row : ∀ i, i < len → ∃ q : (Option Addr × Nat) × List Ins, w.cell? (a.add i) = some (.slice q.1.1 q.2.length q.1.2) ∧ Vw w 7 (fun k => k < w.heap.size) q.1.1 q.2.length (codeC q.2) ∧ (q.1.1 = none → q.2.length = 0) ∧ q.2.length ≤ maxLen := by
      intro i hi'
      obtain ⟨got, hgot, htr⟩ := hi i (by omega)
      obtain ⟨_, hgl, hcell⟩ := World.cells?_some hgot
      rw [hE] at hgl hcell
      obtain ⟨ai, ci, rows, hcs, hrl, hcm, hw, hv, hn⟩ := open_rows he hs hone hC hint (by omega) htr
      rw [h7] at hv hw
      refine ⟨((ai, ci), rows.map insOf), ?_, ?_, ?_, ?_⟩
      · have := hcell 0 (by omega)
        rw [hcs] at this
        rw [Go.Deep.add_add, Nat.mul_one, Nat.add_zero] at this
        rw [this]
        simp
      · rw [List.length_map, ← codeC_rows rows (fun r hr => (hw r hr).1)]
        exact hv
      · intro hh
        rw [List.length_map]
        exact hn hh
      · rw [List.length_map]; omega
    let G : Nat → (Option Addr × Nat) × List Ins := fun i => if h : i < len then (row i h).choose else default
    have hG : ∀ i, i < len → w.cell? (a.add i) = some (.slice (G i).1.1 (G i).2.length (G i).1.2) ∧ Vw w 7 (fun k => k < w.heap.size) (G i).1.1 (G i).2.length (codeC (G i).2) ∧ ((G i).1.1 = none → (G i).2.length = 0) ∧ (G i).2.length ≤ maxLen := by
      intro i h
      have hs := (row i h).choose_spec
      have e : G i = (row i h).choose := by simp only [G, h, dite_true]
      rw [e]
      exact hs
    have hlen : ((List.range len).map G).length = len := by simp
    refine ⟨some a, cap, (List.range len).map G, by rw [hlen], by rw [hlen]; omega, ⟨⟨by simp, ?_⟩, ?_⟩, (fun h => by cases h), ?_⟩
    · by_cases h0 : len = 0
      · left; subst h0; rfl
      · right
        have hc0 := (hG 0 (by omega)).1
        have hsp : a.spot = none := by
          rw [show a.add 0 = a from rfl] at hc0
          unfold World.cell? at hc0
          split at hc0
          · cases hs : a.spot with
            | none => rfl
            | some s => rw [hs] at hc0; simp at hc0
          · cases hc0
        obtain ⟨ab, ao, asp⟩ := a
        simp only at hsp
        subst hsp
        refine ⟨ab, ao, rfl, World.block_lt_of_cell? _ _ hc0, fun j u hj => ?_⟩
        have hjl : j < len := by
          rcases Nat.lt_or_ge j len with h | h
          · exact h
          · rw [List.getElem?_eq_none (by simp; exact h)] at hj; cases hj
        have := (hG j hjl).1
        rw [Addr.add_lit] at this
        rw [this]
        simp [hjl] at hj
        rw [hj]
    · intro q hq
      obtain ⟨i, hi', rfl⟩ := List.mem_map.1 hq
      have := hG i (List.mem_range.1 hi')
      exact ⟨this.2.1, this.2.2.1⟩
    · intro q hq
      obtain ⟨i, hi', rfl⟩ := List.mem_map.1 hq
      exact (hG i (List.mem_range.1 hi')).2.2.2

/-- A struct of a slice of whole numbers, and three whole numbers. -/
theorem open_rest {t : TypeId} {f0 f1 f2 f3 : Field} {e : TypeId} {fuel : Nat} {cs : List Value} {x : DataW H × List MemPlace} (ht : P.underlying t = some (.struct #[f0, f1, f2, f3])) (h0 : P.underlying f0.type = some (.slice e)) (he : P.underlying e = some (.int .i64)) (hC : P.cellsOf e = 1)
    (h1 : P.underlying f1.type = some (.int .i64)) (h2 : P.underlying f2.type = some (.int .i64)) (h3 : P.underlying f3.type = some (.int .i64))
    (ho : f0.offset = 0 ∧ f1.offset = 1 ∧ f2.offset = 2 ∧ f3.offset = 3 ∧ P.cellsOf f0.type = 1 ∧ P.cellsOf f1.type = 1 ∧ P.cellsOf f2.type = 1 ∧ P.cellsOf f3.type = 1 ∧ P.cellsOf t = 4) (h : DataW.trod enc P w base spare held fuel t cs = some x) :
    ∃ (ao : Option Addr) (cap : Nat) (l : List Int) (a b c : Int), cs = [.slice ao l.length cap, .int .i64 a, .int .i64 b, .int .i64 c] ∧ l.length ≤ maxLen ∧ Vw w 1 (fun k => k < w.heap.size) ao l.length (ints l) ∧ (ao = none → l.length = 0) ∧
      (Lit.int .i64 a).wf = true ∧ (Lit.int .i64 b).wf = true ∧ (Lit.int .i64 c).wf = true := by
  obtain ⟨o0, o1, o2, o3, c0, c1, c2, c3, ct⟩ := ho
  obtain ⟨xs, n, _, rfl, hl, hlen, hf⟩ := DataW.trod_struct ht h
  rw [ct] at hl
  match cs, hl with
  | [v0, v1, v2, v3], _ =>
    match xs, hlen with
    | [y0, y1, y2, y3], _ =>
      have g0 := hf 0 f0 rfl
      have g1 := hf 1 f1 rfl
      have g2 := hf 2 f2 rfl
      have g3 := hf 3 f3 rfl
      rw [o0, c0] at g0
      rw [o1, c1] at g1
      rw [o2, c2] at g2
      rw [o3, c3] at g3
      simp only [List.drop_zero, List.drop_succ_cons, List.take_succ_cons, List.take_zero, List.getElem?_cons_zero, List.getElem?_cons_succ] at g0 g1 g2 g3
      obtain ⟨ao, cap, l, hcs, k1, k2, k3, k4, k5⟩ := open_nums h0 he hC g0
      obtain ⟨a, ha, _, wa⟩ := DataW.trod_int h1 g1
      obtain ⟨b, hb, _, wb⟩ := DataW.trod_int h2 g2
      obtain ⟨c, hc, _, wc⟩ := DataW.trod_int h3 g3
      simp at hcs ha hb hc
      subst hcs ha hb hc
      exact ⟨ao, cap, l, a, b, c, rfl, by omega, k4, k5, wa, wb, wc⟩
end
end Go.Proofs.Ytbfeopakmjcapaa.Seq

/-
  Arguments that came in: rows of structs of one-cell fields of any kinds; images; what is done.
-/
namespace Go.Proofs.Ytbfeopakmjcapaa.Seq
open Go.RowKit Go.ChangeShapes Go.WideShapes Go.Deep

section
variable {H : Type} {enc : TypeId × Value → H} {P : Program} {w : World} {base : Nat} {spare : Nat → Bool} {held : Bool}

/-- What a cell of a field may be: a whole number or a truth. -/
def fitV (P : Program) (t : TypeId) (v : Value) : Prop := match P.underlying t with | some (.int .i64) => ∃ q, v = .int .i64 q ∧ (Lit.int .i64 q).wf = true | some .bool => ∃ b, v = .bool b | _ => True
def allIB (P : Program) (fs : Array Field) : Bool := fs.all fun f => match P.underlying f.type with | some (.int .i64) => true | some .bool => true | _ => false

theorem fitV_of {t : TypeId} {fuel : Nat} {v : Value} {x : DataW H × List MemPlace} (h : DataW.trod enc P w base spare held fuel t [v] = some x) : fitV P t v := by
  unfold fitV
  split
  · rename_i ht
    obtain ⟨q, hq, _, hw⟩ := DataW.trod_int ht h
    simp at hq
    exact ⟨q, hq, hw⟩
  · rename_i ht
    obtain ⟨b, hb, _⟩ := DataW.trod_bool ht h
    simp at hb
    exact ⟨b, hb⟩
  · trivial

theorem open_rowsV {t e : TypeId} {fs : Array Field} {fuel : Nat} {cs : List Value} {x : DataW H × List MemPlace} (ht : P.underlying t = some (.slice e)) (he : P.underlying e = some (.struct fs))
    (hone : oneCellFields P fs = true) (hC : P.cellsOf e = fs.size) (hpos : 0 < fs.size) (h : DataW.trod enc P w base spare held fuel t cs = some x) :
    ∃ (ao : Option Addr) (cap : Nat) (rows : List (List Value)), cs = [.slice ao rows.length cap] ∧ rows.length ≤ cap ∧ cap ≤ maxLen ∧ (∀ r ∈ rows, r.length = fs.size ∧ ∀ (j : Nat) (f : Field) (v : Value), fs[j]? = some f → r[j]? = some v → fitV P f.type v) ∧
      Vw w fs.size (fun k => k < w.heap.size) ao rows.length rows.flatten ∧ (ao = none → rows.length = 0) := by
  rcases open_slice ht h with ⟨rfl, _⟩ | ⟨a, len, cap, m, fu, D, Pl, rfl, hb, hl, hm, hmm, hx, hi⟩
  · exact ⟨none, 0, [], rfl, Nat.le_refl _, by unfold maxLen; omega, by simp, ⟨by simp, .inl rfl⟩, fun _ => rfl⟩
  · have hlm : len ≤ m := by rw [hmm]; split <;> omega
    have row : ∀ i, i < len → ∃ r : List Value, r.length = fs.size ∧ (∀ (j : Nat) (f : Field) (v : Value), fs[j]? = some f → r[j]? = some v → fitV P f.type v) ∧ ∀ j u, r[j]? = some u → w.cell? (a.add (i * fs.size + j)) = some u := by
      intro i hi'
      obtain ⟨got, hgot, htr⟩ := hi i (by omega)
      obtain ⟨_, fu2, _, _, hsize, _, hpart⟩ := DataW.trod_struct he htr
      obtain ⟨_, hgl, hcell⟩ := World.cells?_some hgot
      rw [hC] at hgl hcell
      refine ⟨got, hgl, fun j f v hj hv => ?_, fun j u hj => ?_⟩
      · obtain ⟨hoff, hcnt⟩ := hone_of hone j f hj
        have hjl : j < fs.size := (Array.getElem?_eq_some_iff.1 hj).1
        have hpj := hpart j f hj
        rw [hoff, hcnt, List.drop_eq_getElem_cons (show j < got.length by omega), List.take_succ_cons, List.take_zero] at hpj
        have hg : got[j]'(by omega) = v := by
          rw [List.getElem?_eq_getElem (by omega)] at hv
          exact Option.some.inj hv
        rw [hg] at hpj
        exact fitV_of (hpj.trans (List.getElem?_eq_getElem (by omega)))
      · have hjl : j < got.length := (List.getElem?_eq_some_iff.1 hj).1
        have hcj := hcell j (by omega)
        rw [Go.Deep.add_add] at hcj
        rw [hcj, hj]
    let G : Nat → List Value := fun i => if h : i < len then (row i h).choose else []
    have hG : ∀ i, i < len → (G i).length = fs.size ∧ (∀ (j : Nat) (f : Field) (v : Value), fs[j]? = some f → (G i)[j]? = some v → fitV P f.type v) ∧ ∀ j u, (G i)[j]? = some u → w.cell? (a.add (i * fs.size + j)) = some u := by
      intro i h
      have hs := (row i h).choose_spec
      have e : G i = (row i h).choose := by simp only [G, h, dite_true]
      rw [e]
      exact hs
    have flat : ∀ k, k ≤ len → (((List.range k).map G).flatten).length = k * fs.size ∧ ∀ j u, (((List.range k).map G).flatten)[j]? = some u → w.cell? (a.add j) = some u := by
      intro k
      induction k with
      | zero => intro _; simp
      | succ k ih =>
        intro hk
        obtain ⟨h1, h2⟩ := ih (by omega)
        obtain ⟨g1, _, g3⟩ := hG k (by omega)
        have e : ((List.range (k + 1)).map G).flatten = ((List.range k).map G).flatten ++ G k := by simp [List.range_succ]
        rw [e]
        refine ⟨by rw [List.length_append, h1, g1, Nat.succ_mul], fun j u hj => ?_⟩
        by_cases hjl : j < k * fs.size
        · rw [List.getElem?_append_left (by rw [h1]; exact hjl)] at hj
          exact h2 j u hj
        · rw [List.getElem?_append_right (by rw [h1]; omega), h1] at hj
          have := g3 (j - k * fs.size) u hj
          rwa [show k * fs.size + (j - k * fs.size) = j by omega] at this
    have hlen : ((List.range len).map G).length = len := by simp
    obtain ⟨f1, f2⟩ := flat len (Nat.le_refl _)
    refine ⟨some a, cap, (List.range len).map G, by rw [hlen], by rw [hlen]; exact hl, hm, fun r hr => ?_, ⟨by rw [f1, hlen], ?_⟩, fun h => by cases h⟩
    · obtain ⟨i, hi', rfl⟩ := List.mem_map.1 hr
      obtain ⟨g1, g2, _⟩ := hG i (List.mem_range.1 hi')
      exact ⟨g1, g2⟩
    · by_cases h0 : len = 0
      · left; subst h0; rfl
      · right
        have hpos2 : 0 < len * fs.size := Nat.mul_pos (by omega) hpos
        have hc0 := f2 0 _ (List.getElem?_eq_getElem (by omega))
        have hsp : a.spot = none := by
          rw [show a.add 0 = a from rfl] at hc0
          unfold World.cell? at hc0
          split at hc0
          · cases hs : a.spot with
            | none => rfl
            | some s => rw [hs] at hc0; simp at hc0
          · cases hc0
        obtain ⟨ab, ao, as⟩ := a
        simp only at hsp
        subst hsp
        refine ⟨ab, ao, rfl, ?_, fun j u hj => by have := f2 j u hj; rwa [Addr.add_lit] at this⟩
        have := World.block_lt_of_cell? _ _ hc0
        exact this

/-- Rows of two whole numbers and a truth. -/
theorem rows_areas {rows : List (List Value)} (h : ∀ r ∈ rows, ∃ x y b, r = [.int .i64 x, .int .i64 y, .bool b]) : ∃ l : List (Int × Int × Bool), l.length = rows.length ∧ rows.flatten = l.flatMap fun a => [.int .i64 a.1, .int .i64 a.2.1, .bool a.2.2] := by
  induction rows with
  | nil => exact ⟨[], rfl, rfl⟩
  | cons r rows ih =>
    obtain ⟨l, h1, h2⟩ := ih (fun r hr => h r (by simp [hr]))
    obtain ⟨x, y, b, rfl⟩ := h r (by simp)
    exact ⟨(x, y, b) :: l, by simp [h1], by simp [h2]⟩
/-- Rows of a truth and a whole number. -/
theorem rows_dos {rows : List (List Value)} (h : ∀ r ∈ rows, ∃ b x, r = [.bool b, .int .i64 x]) : ∃ l : List (Bool × Int), l.length = rows.length ∧ rows.flatten = l.flatMap fun a => [.bool a.1, .int .i64 a.2] := by
  induction rows with
  | nil => exact ⟨[], rfl, rfl⟩
  | cons r rows ih =>
    obtain ⟨l, h1, h2⟩ := ih (fun r hr => h r (by simp [hr]))
    obtain ⟨x, y, rfl⟩ := h r (by simp)
    exact ⟨(x, y) :: l, by simp [h1], by simp [h2]⟩

/-- An image: codes, areas, words, locks. -/
theorem open_image {t : TypeId} {f0 f1 f2 f3 : Field} {te ts ta : TypeId} {fs fa : Array Field} {a0 a1 a2 : Field} {fuel : Nat} {cs : List Value} {x : DataW H × List MemPlace} (ht : P.underlying t = some (.struct #[f0, f1, f2, f3]))
    (h0 : P.underlying f0.type = some (.slice te)) (he : P.underlying te = some (.slice ts)) (hs : P.underlying ts = some (.struct fs)) (hE : P.cellsOf te = 1) (hone : oneCellFields P fs = true) (hC : P.cellsOf ts = fs.size) (hint : allI64 P fs = true) (h7 : fs.size = 7)
    (h1 : P.underlying f1.type = some (.slice ta)) (hta : P.underlying ta = some (.struct #[a0, a1, a2])) (hone2 : oneCellFields P #[a0, a1, a2] = true) (hC2 : P.cellsOf ta = 3) (ha0 : P.underlying a0.type = some (.int .i64)) (ha1 : P.underlying a1.type = some (.int .i64)) (ha2 : P.underlying a2.type = some .bool)
    (h2 : P.underlying f2.type = some (.int .i64)) (h3 : P.underlying f3.type = some (.int .i64))
    (ho : f0.offset = 0 ∧ f1.offset = 1 ∧ f2.offset = 2 ∧ f3.offset = 3 ∧ P.cellsOf f0.type = 1 ∧ P.cellsOf f1.type = 1 ∧ P.cellsOf f2.type = 1 ∧ P.cellsOf f3.type = 1 ∧ P.cellsOf t = 4) (h : DataW.trod enc P w base spare held fuel t cs = some x) :
    ∃ (ao aa : Option Addr) (co ac : Nat) (qs : List ((Option Addr × Nat) × List Ins)) (al : List (Int × Int × Bool)) (words locks : Int), cs = [.slice ao qs.length co, .slice aa al.length ac, .int .i64 words, .int .i64 locks] ∧
      qs.length ≤ maxLen ∧ Codes w (fun k => k < w.heap.size) ao qs ∧ (∀ q ∈ qs, q.2.length ≤ maxLen) ∧ al.length ≤ maxLen ∧ Vw w 3 (fun k => k < w.heap.size) aa al.length (al.flatMap fun a => [.int .i64 a.1, .int .i64 a.2.1, .bool a.2.2]) := by
  obtain ⟨o0, o1, o2, o3, c0, c1, c2, c3, ct⟩ := ho
  obtain ⟨xs, n, _, rfl, hl, hlen, hf⟩ := DataW.trod_struct ht h
  rw [ct] at hl
  match cs, hl with
  | [v0, v1, v2, v3], _ =>
    match xs, hlen with
    | [y0, y1, y2, y3], _ =>
      have g0 := hf 0 f0 rfl
      have g1 := hf 1 f1 rfl
      have g2 := hf 2 f2 rfl
      have g3 := hf 3 f3 rfl
      rw [o0, c0] at g0
      rw [o1, c1] at g1
      rw [o2, c2] at g2
      rw [o3, c3] at g3
      simp only [List.drop_zero, List.drop_succ_cons, List.take_succ_cons, List.take_zero, List.getElem?_cons_zero, List.getElem?_cons_succ] at g0 g1 g2 g3
      obtain ⟨ao, co, qs, hcs, k1, k2, k3, k4⟩ := open_codes h0 he hs hE hone hC hint h7 g0
      obtain ⟨aa, ac, rows, hcs2, m1, m2, m3, m4, m5⟩ := open_rowsV h1 hta hone2 (by rw [hC2]; rfl) (by simp) g1
      obtain ⟨a, ha, _, wa⟩ := DataW.trod_int h2 g2
      obtain ⟨b, hb, _, wb⟩ := DataW.trod_int h3 g3
      obtain ⟨al, l1, l2⟩ := rows_areas (rows := rows) (fun r hr => by
        obtain ⟨r1, r2⟩ := m3 r hr
        match r, r1 with
        | [x, y, z], _ =>
          have e0 := r2 0 a0 x rfl rfl
          have e1 := r2 1 a1 y rfl rfl
          have e2 := r2 2 a2 z rfl rfl
          unfold fitV at e0 e1 e2
          rw [ha0] at e0
          rw [ha1] at e1
          rw [ha2] at e2
          obtain ⟨q0, rfl, _⟩ := e0
          obtain ⟨q1, rfl, _⟩ := e1
          obtain ⟨q2, rfl⟩ := e2
          exact ⟨q0, q1, q2, rfl⟩)
      simp at hcs hcs2 ha hb
      subst hcs hcs2 ha hb
      refine ⟨ao, aa, co, ac, qs, al, a, b, by rw [l1], k1, k2, k4, by rw [l1]; omega, ?_⟩
      rw [l1, ← l2]
      exact m4

/-- What is done: rows of a truth and a thread. -/
theorem open_dos {t e : TypeId} {a0 a1 : Field} {fuel : Nat} {cs : List Value} {x : DataW H × List MemPlace} (ht : P.underlying t = some (.slice e)) (he : P.underlying e = some (.struct #[a0, a1])) (hone : oneCellFields P #[a0, a1] = true) (hC : P.cellsOf e = 2)
    (ha0 : P.underlying a0.type = some .bool) (ha1 : P.underlying a1.type = some (.int .i64)) (h : DataW.trod enc P w base spare held fuel t cs = some x) :
    ∃ (ao : Option Addr) (cap : Nat) (l : List (Bool × Int)), cs = [.slice ao l.length cap] ∧ l.length ≤ maxLen ∧ Vw w 2 (fun k => k < w.heap.size) ao l.length (l.flatMap fun a => [.bool a.1, .int .i64 a.2]) ∧ (ao = none → l.length = 0) := by
  obtain ⟨ao, cap, rows, hcs, m1, m2, m3, m4, m5⟩ := open_rowsV ht he hone (by rw [hC]; rfl) (by simp) h
  obtain ⟨l, l1, l2⟩ := rows_dos (rows := rows) (fun r hr => by
    obtain ⟨r1, r2⟩ := m3 r hr
    match r, r1 with
    | [x, y], _ =>
      have e0 := r2 0 a0 x rfl rfl
      have e1 := r2 1 a1 y rfl rfl
      unfold fitV at e0 e1
      rw [ha0] at e0
      rw [ha1] at e1
      obtain ⟨q0, rfl⟩ := e0
      obtain ⟨q1, rfl, _⟩ := e1
      exact ⟨q0, q1, rfl⟩)
  refine ⟨ao, cap, l, by rw [l1]; exact hcs, by rw [l1]; omega, ?_, by rw [l1]; exact m5⟩
  rw [l1, ← l2]
  exact m4
end
end Go.Proofs.Ytbfeopakmjcapaa.Seq

/-
  A slice of whole numbers of any kind, opened.
-/
namespace Go.Proofs.Ytbfeopakmjcapaa
open Go.RowKit Go.ChangeShapes Go.WideShapes Go.Deep
section
variable {H : Type} {enc : TypeId × Value → H} {P : Program} {w : World} {base : Nat} {spare : Nat → Bool} {held : Bool}
def intsK (k : IntKind) (l : List Int) : List Value := l.map (Value.int k)
theorem intsK_length (k : IntKind) (l : List Int) : (intsK k l).length = l.length := by simp [intsK]
theorem open_numsK {k : IntKind} {t e : TypeId} {fuel : Nat} {cs : List Value} {x : DataW H × List MemPlace} (ht : P.underlying t = some (.slice e)) (he : P.underlying e = some (.int k)) (hC : P.cellsOf e = 1)
    (h : DataW.trod enc P w base spare held fuel t cs = some x) :
    ∃ (ao : Option Addr) (cap : Nat) (l : List Int), cs = [.slice ao l.length cap] ∧ l.length ≤ cap ∧ cap ≤ maxLen ∧ (∀ n ∈ l, (Lit.int k n).wf = true) ∧ Vw w 1 (fun k => k < w.heap.size) ao l.length (intsK k l) ∧ (ao = none → l.length = 0) := by
  rcases open_ints ht he hC h with ⟨rfl, _⟩ | ⟨a, len, cap, zs, rfl, _, hl, hm, hz, _, hcell, hwz⟩
  · exact ⟨none, 0, [], rfl, Nat.le_refl _, by unfold maxLen; omega, by simp, ⟨by simp [intsK], .inl rfl⟩, fun _ => rfl⟩
  · have hlz : len ≤ zs.length := by rw [hz]; split <;> omega
    have hlen : (zs.take len).length = len := by simp; omega
    refine ⟨some a, cap, zs.take len, by rw [hlen], by omega, hm, fun n hn => hwz n (List.mem_of_mem_take hn), ⟨by rw [intsK_length]; omega, ?_⟩, fun h => by cases h⟩
    by_cases h0 : len = 0
    · left; subst h0; rfl
    · right
      have hc0 := hcell 0 (by omega)
      have hsp : a.spot = none := by
        rw [show a.add 0 = a from rfl] at hc0
        unfold World.cell? at hc0
        split at hc0
        · cases hs : a.spot with
          | none => rfl
          | some s => rw [hs] at hc0; simp at hc0
        · cases hc0
      obtain ⟨ab, ao, as⟩ := a
      simp only at hsp
      subst hsp
      refine ⟨ab, ao, rfl, World.block_lt_of_cell? _ _ hc0, fun j u hj => ?_⟩
      have hjl : j < len := by
        rcases Nat.lt_or_ge j len with h | h
        · exact h
        · rw [List.getElem?_eq_none (by rw [intsK_length]; omega)] at hj; cases hj
      have := hcell j (by omega)
      rw [Addr.add_lit] at this
      rw [this]
      simp [intsK, hjl, show j < zs.length by omega] at hj
      rw [← hj]
      simp [List.getD, show j < zs.length by omega]
end
end Go.Proofs.Ytbfeopakmjcapaa
