/-
  Memory: what stays as it was, blocks that are known whole, slices that are owned and slices that are only read; append as a law on them; no condition.
-/
import Derived.Test.YtfiebpcambdbaaaDoorFlow
import Derived.WalkKit
import Derived.StillTailTactics
import Derived.Deep.Draws
import Derived.WalkSpells
set_option linter.unusedVariables false
set_option linter.unusedSimpArgs false
set_option maxHeartbeats 4000000
set_option maxRecDepth 8000
namespace Go.Proofs.YtfiebpcambdbaaaDoor
open Go.RowKit

theorem hid {p : Prop} (h : p) : Hid p := h

/-- Outside S the old blocks are as they were. -/
structure Fr (S : Nat → Prop) (w w' : World) : Prop where
  os : w'.os = w.os
  tape : w'.tape = w.tape
  output : w'.output = w.output
  size : w.heap.size ≤ w'.heap.size
  block : ∀ k, k < w.heap.size → ¬ S k → w'.heap[k]? = w.heap[k]?

namespace Fr
variable {S : Nat → Prop} {w w1 w2 : World}
theorem refl (S : Nat → Prop) (w : World) : Fr S w w := ⟨rfl, rfl, rfl, Nat.le_refl _, fun _ _ _ => rfl⟩
theorem trans {S2 : Nat → Prop} (h : Fr S w w1) (h2 : Fr S2 w1 w2) (hs : ∀ k, k < w.heap.size → S2 k → S k) : Fr S w w2 :=
  ⟨h2.os.trans h.os, h2.tape.trans h.tape, h2.output.trans h.output, Nat.le_trans h.size h2.size, fun k hk hn =>
    (h2.block k (Nat.lt_of_lt_of_le hk h.size) (fun h' => hn (hs k hk h'))).trans (h.block k hk hn)⟩
theorem mono {S2 : Nat → Prop} (h : Fr S w w1) (hs : ∀ k, k < w.heap.size → S k → S2 k) : Fr S2 w w1 :=
  ⟨h.os, h.tape, h.output, h.size, fun k hk hn => h.block k hk (fun h' => hn (hs k hk h'))⟩
theorem alloc (h : Fr S w w1) (o : Obj) : Fr S w (w1.alloc o) :=
  h.trans (S2 := fun _ => False) ⟨rfl, rfl, rfl, by simp, fun k hk _ => Below.heap_alloc _ _ _ hk⟩ (fun _ _ h => h.elim)
theorem setCell (h : Fr S w w1) {a : Addr} (ha : a.block < w.heap.size → S a.block) (v : Value) : Fr S w (w1.setCell a v) :=
  h.trans (S2 := fun k => k = a.block) ⟨rfl, rfl, rfl, by simp, fun k _ hn => Below.heap_setCell _ _ _ _ hn⟩ (fun k hk e => by subst e; exact ha hk)
theorem drew (h : Fr S w w1) : Fr S w w1.drew := ⟨h.os, h.tape, h.output, h.size, h.block⟩
theorem drewN (h : Fr S w w1) (n : Nat) : Fr S w (w1.drewN n) := ⟨h.os, h.tape, h.output, h.size, h.block⟩
theorem cell (h : Fr S w w1) {a : Addr} {v : Value} (hc : w.cell? a = some v) (hn : ¬ S a.block) : w1.cell? a = some v :=
  (World.cell?_of_block (h.block a.block (World.block_lt_of_cell? w a hc) hn)).trans hc
theorem frozen (h : Fr S w w1) {a : Addr} (hl : a.block < w.heap.size) (hn : ¬ S a.block) : w1.frozen? a = w.frozen? a := World.frozen?_of_block (h.block a.block hl hn)
theorem below (h : Fr S w w1) {B : Nat} (hB : B ≤ w.heap.size) (hs : ∀ k, k < B → ¬ S k) : Below B w w1 :=
  ⟨h.os, h.tape, h.output, h.size, fun k hk => h.block k (Nat.lt_of_lt_of_le hk hB) (hs k hk)⟩
theorem of_below {B : Nat} (h : Below B w w1) : Fr (fun k => B ≤ k) w w1 := ⟨h.os, h.tape, h.output, h.size, fun k _ hn => h.block k (by omega)⟩
theorem of_grown {row : Option Nat} (h : w.grownBy w1 row) : Fr (fun k => some k = row) w w1 := ⟨h.os, h.tape, h.output, h.size, fun k hk hn => h.block k hk hn⟩
end Fr

/-- A block that is known whole, and of which nothing is frozen. -/
def Blk (w : World) (b : Nat) (cs : Array Value) (T : TypeId) : Prop := w.heap[b]? = some (.cells cs T (0, 0))

namespace Blk
variable {w w1 : World} {b : Nat} {cs : Array Value} {T : TypeId}
theorem lt (h : Blk w b cs T) : b < w.heap.size := (Array.getElem?_eq_some_iff.1 h).1
theorem cell (h : Blk w b cs T) (i : Nat) : w.cell? ⟨b, i, none⟩ = cs[i]? := by
  unfold Blk at h
  simp [World.cell?, h]
theorem free (h : Blk w b cs T) (i : Nat) : w.frozen? ⟨b, i, none⟩ = false := by
  unfold Blk at h
  simp [World.frozen?, h]
theorem new (w : World) (cs : Array Value) (T : TypeId) : Blk (w.alloc (.cells cs T)) w.heap.size cs T := heap_alloc_new w _
theorem alloc (h : Blk w b cs T) (o : Obj) : Blk (w.alloc o) b cs T := (Below.heap_alloc w o b h.lt).trans h
theorem drew (h : Blk w b cs T) : Blk w.drew b cs T := h
theorem drewN (h : Blk w b cs T) (n : Nat) : Blk (w.drewN n) b cs T := h
theorem set (h : Blk w b cs T) (i : Nat) (v : Value) : Blk (w.setCell ⟨b, i, none⟩ v) b (cs.setIfInBounds i v) T := by
  unfold Blk at *
  simp [World.setCell, Array.getElem?_modify, h]
theorem set_ne (h : Blk w b cs T) {a : Addr} (ha : b ≠ a.block) (v : Value) : Blk (w.setCell a v) b cs T := (Below.heap_setCell w a v b ha).trans h
theorem fr {S : Nat → Prop} (h : Blk w b cs T) (hf : Fr S w w1) (hn : ¬ S b) : Blk w1 b cs T := (hf.block b h.lt hn).trans h
end Blk

/-- Cells that are read: n elements of sz cells each, where a slice's head points to. -/
def Vw (w : World) (sz : Nat) (R : Nat → Prop) (ao : Option Addr) (n : Nat) (cs : List Value) : Prop :=
  cs.length = n * sz ∧ (cs = [] ∨ ∃ r off, ao = some ⟨r, off, none⟩ ∧ R r ∧ ∀ j u, cs[j]? = some u → w.cell? ⟨r, off + j, none⟩ = some u)

/-- A row that is owned. -/
def OwnAt (w : World) (E : TypeId) (sz : Nat) (R : Nat → Prop) (ao : Option Addr) (n cap : Nat) (cs : List Value) : Prop :=
  n ≤ cap ∧ cap ≤ maxLen ∧ cs.length = n * sz ∧
    (cap = 0 ∨ ∃ r off C, ao = some ⟨r, off, none⟩ ∧ R r ∧ Blk w r C E ∧ off + cap * sz ≤ C.size ∧ (C.toList.drop off).take (n * sz) = cs)

def Own (w : World) (E : TypeId) (sz : Nat) (R : Nat → Prop) (v : Value) (n : Nat) (cs : List Value) : Prop :=
  ∃ ao cap, v = .slice ao n cap ∧ OwnAt w E sz R ao n cap cs

theorem Vw.fr {w w1 : World} {sz : Nat} {R S : Nat → Prop} {ao : Option Addr} {n : Nat} {cs : List Value} (h : Vw w sz R ao n cs) (hf : Fr S w w1) (hn : ∀ k, R k → ¬ S k) : Vw w1 sz R ao n cs := by
  refine ⟨h.1, ?_⟩
  rcases h.2 with h2 | ⟨r, off, e, hr, hc⟩
  · exact .inl h2
  · exact .inr ⟨r, off, e, hr, fun j u hj => hf.cell (hc j u hj) (hn r hr)⟩

theorem Vw.mono {w : World} {sz : Nat} {R R2 : Nat → Prop} {ao : Option Addr} {n : Nat} {cs : List Value} (h : Vw w sz R ao n cs) (hr : ∀ k, R k → R2 k) : Vw w sz R2 ao n cs := by
  refine ⟨h.1, ?_⟩
  rcases h.2 with h2 | ⟨r, off, e, h3, hc⟩
  · exact .inl h2
  · exact .inr ⟨r, off, e, hr r h3, hc⟩

theorem Vw.cell {w : World} {sz : Nat} {R : Nat → Prop} {ao : Option Addr} {n : Nat} {cs : List Value} (h : Vw w sz R ao n cs) (hn : cs ≠ []) :
    ∃ r off, ao = some ⟨r, off, none⟩ ∧ R r ∧ ∀ j u, cs[j]? = some u → w.cell? ⟨r, off + j, none⟩ = some u := by
  rcases h.2 with h2 | h2
  · exact absurd h2 hn
  · exact h2

theorem Vw.of_blk {w : World} {b sz n : Nat} {R : Nat → Prop} {C : Array Value} {T : TypeId} (h : Blk w b C T) (hR : R b) (hl : C.size = n * sz) : Vw w sz R (some ⟨b, 0, none⟩) n C.toList := by
  refine ⟨by simpa using hl, .inr ⟨b, 0, rfl, hR, fun j u hj => ?_⟩⟩
  rw [h.cell]
  simpa using hj

namespace OwnAt
variable {w w1 : World} {E : TypeId} {sz : Nat} {R S : Nat → Prop} {ao : Option Addr} {n cap : Nat} {cs : List Value}
theorem vw (h : OwnAt w E sz R ao n cap cs) : Vw w sz R ao n cs := by
  obtain ⟨hn, hm, hl, h⟩ := h
  refine ⟨hl, ?_⟩
  rcases h with h | ⟨r, off, C, e, hr, hb, hs, ht⟩
  · left
    have : n = 0 := by omega
    subst this
    simpa using hl
  · refine .inr ⟨r, off, e, hr, fun j u hj => ?_⟩
    rw [hb.cell]
    subst ht
    rw [List.getElem?_take, List.getElem?_drop] at hj
    split at hj
    · simpa using hj
    · cases hj
theorem fr (h : OwnAt w E sz R ao n cap cs) (hf : Fr S w w1) (hn : ∀ k, R k → ¬ S k) : OwnAt w1 E sz R ao n cap cs := by
  obtain ⟨h1, h2, h3, h4⟩ := h
  refine ⟨h1, h2, h3, ?_⟩
  rcases h4 with h | ⟨r, off, C, e, hr, hb, hs, ht⟩
  · exact .inl h
  · exact .inr ⟨r, off, C, e, hr, hb.fr hf (hn r hr), hs, ht⟩
/-- x[:m] -/
theorem shrink {m : Nat} (h : OwnAt w E sz R ao n cap cs) (hm : m ≤ n) : OwnAt w E sz R ao m cap (cs.take (m * sz)) := by
  obtain ⟨h1, h2, h3, h4⟩ := h
  have hle : m * sz ≤ n * sz := Nat.mul_le_mul_right _ hm
  refine ⟨by omega, h2, by simp; omega, ?_⟩
  rcases h4 with h | ⟨r, off, C, e, hr, hb, hs, ht⟩
  · exact .inl h
  · exact .inr ⟨r, off, C, e, hr, hb, hs, by rw [← ht, List.take_take, Nat.min_eq_left hle]⟩
theorem head_cell (h : OwnAt w E sz R ao (n + 1) cap cs) : ∃ r off, ao = some ⟨r, off, none⟩ ∧ R r ∧ r < w.heap.size ∧ ∀ j u, cs[j]? = some u → w.cell? ⟨r, off + j, none⟩ = some u := by
  obtain ⟨h1, h2, h3, h4⟩ := h
  have hv := vw (E := E) ⟨h1, h2, h3, h4⟩
  rcases h4 with h | ⟨r, off, C, e, hr, hb, hs, ht⟩
  · omega
  · refine ⟨r, off, e, hr, hb.lt, fun j u hj => ?_⟩
    rcases hv.2 with h | ⟨r', o', e', _, hc⟩
    · rw [h] at hj; simp at hj
    · rw [e] at e'
      simp at e'
      obtain ⟨rfl, rfl⟩ := e'
      exact hc j u hj
theorem mono {R2 : Nat → Prop} (h : OwnAt w E sz R ao n cap cs) (hr : ∀ k, k < w.heap.size → R k → R2 k) : OwnAt w E sz R2 ao n cap cs := by
  obtain ⟨h1, h2, h3, h4⟩ := h
  refine ⟨h1, h2, h3, ?_⟩
  rcases h4 with h | ⟨r, off, C, e, h5, hb, hs, ht⟩
  · exact .inl h
  · exact .inr ⟨r, off, C, e, hr r hb.lt h5, hb, hs, ht⟩
theorem nil (w : World) (E : TypeId) (sz : Nat) (R : Nat → Prop) (ao : Option Addr) : OwnAt w E sz R ao 0 0 [] := ⟨Nat.le_refl _, by unfold maxLen; omega, by simp, .inl rfl⟩
theorem newRow {C : Array Value} (w : World) (hR : R w.heap.size) (hm : cap ≤ maxLen) (hn : n ≤ cap) (hs : C.size = cap * sz) :
    OwnAt (w.alloc (.cells C E)) E sz R (some ⟨w.heap.size, 0, none⟩) n cap (C.toList.take (n * sz)) := by
  have hle : n * sz ≤ cap * sz := Nat.mul_le_mul_right _ hn
  exact ⟨hn, hm, by simp; omega, .inr ⟨w.heap.size, 0, C, rfl, hR, Blk.new _ _ _, by omega, by simp⟩⟩
/-- x[1:] -/
theorem tail {v : List Value} (h : OwnAt w E sz R ao (n + 1) cap (v ++ cs)) (hv : v.length = sz) : OwnAt w E sz R (if cap = 1 then ao else ao.map (·.add (1 * sz))) n (cap - 1) cs := by
  obtain ⟨h1, h2, h3, h4⟩ := h
  have hl : cs.length = n * sz := by simp [hv, Nat.add_mul] at h3; omega
  refine ⟨by omega, by omega, hl, ?_⟩
  by_cases hc : cap = 1
  · exact .inl (by omega)
  · rcases h4 with h | ⟨r, off, C, e, hr, hb, hs, ht⟩
    · omega
    · subst e
      refine .inr ⟨r, off + sz, C, ?_, hr, hb, ?_, ?_⟩
      · simp only [hc, if_false, Option.map_some, Nat.one_mul]
        unfold Addr.add
        split
        · rename_i h0; simp [h0]
        · rfl
      · have : cap * sz = (cap - 1) * sz + sz := by rw [← Nat.succ_mul]; congr 1; omega
        omega
      · have e1 : cs = (v ++ cs).drop sz := by rw [← hv]; simp
        rw [e1, ← ht, ← List.drop_drop, List.drop_take]
        congr 1
        rw [Nat.add_mul]; omega
/-- x[:m:m] -/
theorem head {m : Nat} (h : OwnAt w E sz R ao n cap cs) (hm : m ≤ n) : OwnAt w E sz R ao m m (cs.take (m * sz)) := by
  obtain ⟨h1, h2, h3, h4⟩ := h
  have hle : m * sz ≤ n * sz := Nat.mul_le_mul_right _ hm
  refine ⟨Nat.le_refl _, by omega, by simp; omega, ?_⟩
  rcases h4 with h | ⟨r, off, C, e, hr, hb, hs, ht⟩
  · exact .inl (by omega)
  · refine .inr ⟨r, off, C, e, hr, hb, ?_, ?_⟩
    · have : m * sz ≤ cap * sz := Nat.mul_le_mul_right _ (by omega)
      omega
    · rw [← ht, List.take_take, Nat.min_eq_left hle]
/-- x[i] = v, an element of one cell -/
theorem set1 {i : Nat} (h : OwnAt w E 1 R ao n cap cs) (hi : i < n) (v : Value) : ∃ r off, ao = some ⟨r, off, none⟩ ∧ R r ∧ w.frozen? ⟨r, off + i, none⟩ = false ∧ (∃ u, w.cell? ⟨r, off + i, none⟩ = some u) ∧
    OwnAt (w.setCell ⟨r, off + i, none⟩ v) E 1 R ao n cap (cs.set i v) ∧ Fr (fun k => k = r) w (w.setCell ⟨r, off + i, none⟩ v) := by
  obtain ⟨h1, h2, h3, h4⟩ := h
  rcases h4 with h | ⟨r, off, C, e, hr, hb, hs, ht⟩
  · omega
  · have hlt : off + i < C.size := by omega
    refine ⟨r, off, e, hr, hb.free _, ⟨C[off + i], by rw [hb.cell]; simp [hlt]⟩, ⟨h1, h2, by simpa using h3, .inr ⟨r, off, _, e, hr, hb.set _ _, by simpa using hs, ?_⟩⟩, ?_⟩
    · rw [Array.toList_setIfInBounds, ← ht]
      apply List.ext_getElem?
      intro j
      by_cases hj : j < n
      · rw [List.getElem?_take_of_lt (by omega), List.getElem?_drop]
        by_cases hij : i = j
        · subst hij
          rw [List.getElem?_set_self (by simp; omega), List.getElem?_set_self (by simp; omega)]
        · rw [List.getElem?_set_ne (by omega), List.getElem?_set_ne hij, List.getElem?_take_of_lt (by omega), List.getElem?_drop]
      · rw [List.getElem?_eq_none (by simp; omega), List.getElem?_eq_none (by simp; omega)]
    · exact Fr.setCell (S := fun k => k = r) (Fr.refl _ w) (fun _ => rfl) _
end OwnAt

/-- Whole numbers, as cells. -/
def ints (l : List Int) : List Value := l.map (Value.int .i64)
theorem ints_length (l : List Int) : (ints l).length = l.length := by simp [ints]
theorem ints_one (l : List Int) : ∀ u ∈ ints l, u.oneCell' = true := by
  intro u h
  simp only [ints, List.mem_map] at h
  obtain ⟨x, _, rfl⟩ := h
  rfl
theorem ints_get (l : List Int) (i : Nat) (h : i < l.length) : (ints l)[i]? = some (.int .i64 (l.getD i 0)) := by simp [ints, h]
theorem ints_get' (l : List Int) (i : Nat) (h : i < l.length) : (ints l)[i]? = some (.int .i64 l[i]) := by simp [ints, h]
theorem ints_set (l : List Int) (i : Nat) (v : Int) : (ints l).set i (.int .i64 v) = ints (l.set i v) := by simp [ints, List.map_set]
theorem ints_append (l r : List Int) : ints (l ++ r) = ints l ++ ints r := by simp [ints]

theorem setCells_heap (b : Nat) : ∀ (vs : List Value) (o : Nat) (w : World) (C : Array Value) (E : TypeId), Blk w b C E → o + vs.length ≤ C.size →
    ∃ C', Blk (w.setCells b o vs) b C' E ∧ C'.toList = C.toList.take o ++ vs ++ C.toList.drop (o + vs.length) ∧ Fr (fun k => k = b) w (w.setCells b o vs) ∧ (w.setCells b o vs).heap.size = w.heap.size
  | [], o, w, C, E, h, _ => ⟨C, h, by simp, Fr.refl _ _, rfl⟩
  | v :: r, o, w, C, E, h, hl => by
    simp only [List.length_cons] at hl
    obtain ⟨C', h1, h2, h3, h4⟩ := setCells_heap b r (o + 1) (w.setCell ⟨b, o, none⟩ v) _ E (h.set o v) (by simp; omega)
    refine ⟨C', h1, ?_, (Fr.setCell (S := fun k => k = b) (Fr.refl _ w) (fun _ => rfl) v).trans h3 (fun _ _ h => h), by rw [World.setCells, h4]; simp⟩
    have hlt : o < C.toList.length := by simp; omega
    have e1 : (C.setIfInBounds o v).toList = C.toList.take o ++ v :: C.toList.drop (o + 1) := by
      rw [Array.toList_setIfInBounds, List.set_eq_take_append_cons_drop, if_pos hlt]
    have hlen : (C.toList.take o).length = o := by rw [List.length_take]; omega
    have e3 : List.take (o + 1) (C.toList.take o ++ v :: C.toList.drop (o + 1)) = C.toList.take o ++ [v] := by
      rw [List.take_append, hlen, List.take_of_length_le (by omega), show o + 1 - o = 1 by omega]; rfl
    have e4 : List.drop (o + 1 + r.length) (C.toList.take o ++ v :: C.toList.drop (o + 1)) = C.toList.drop (o + (r.length + 1)) := by
      rw [List.drop_append, hlen, List.drop_of_length_le (by omega), show o + 1 + r.length - o = r.length + 1 by omega, List.nil_append, List.drop_succ_cons, List.drop_drop]
      congr 1; omega
    rw [h2, e1, e3, e4]
    simp

section
variable {P : Program} (w : World)

/-- append, whatever the room: the row is owned still. -/
theorem run_append_Own (t ty e : TypeId) (i : TypeInfo) (z : Value) (size bytes : Nat) (ht : P.underlying t = some (.slice e)) (hi : P.info? e = some i) (hz : i.zero = some z)
    (hsize : i.size = size) (hby : i.bytes = bytes) (hzs : z.cells.size = size) (hsz : 0 < size) (R R2 : Nat → Prop) (ao : Option Addr) (n cap : Nat) (cs : List Value)
    (hown : OwnAt w e size R ao n cap cs) (ax : Option Addr) (m c : Nat) (news : List Value) (hv : Vw w size R2 ax m news) (h1 : ∀ u ∈ news, u.oneCell' = true)
    (b1 : n + m ≤ maxLen) (b2 : (n + m) * bytes ≤ 140737488355328) :
    ∃ ao' cap' w', (Builtin.append_ #[t, t] ty #[.slice ao n cap, .slice ax m c]).run P w = .ok (.slice ao' (n + m) cap') w' ∧
      OwnAt w' e size (fun k => R k ∨ w.heap.size ≤ k) ao' (n + m) cap' (cs ++ news) ∧ Fr R w w' := by
  by_cases hm : m = 0
  · subst hm
    obtain rfl : news = [] := List.eq_nil_of_length_eq_zero (by simpa using hv.1)
    refine ⟨ao, cap, w, ?_, by simpa using hown.mono (fun k _ h => .inl h), Fr.refl _ _⟩
    have hf : (Builtin.firstCells size 0 (.slice ax 0 c)).run P w = .ok #[] w := by
      cases ax <;> simp [Builtin.firstCells, loadCells, loadCellsFrom]
    subst hsize
    simp [Builtin.append_, run_underlying ht, sizeOf, typeInfo, hi, Builtin.lenOf, hown.1, hf]
    cases ao <;> simp [storeCells]
  · have hne : news ≠ [] := by
      intro h
      have := hv.1
      rw [h] at this
      have h0 : m * size = 0 := this.symm
      rcases Nat.mul_eq_zero.1 h0 with h | h <;> omega
    obtain ⟨rx, ox, rfl, _, hnews⟩ := hv.cell hne
    have hnews' : ∀ j u, news[j]? = some u → w.cell? ((⟨rx, ox, none⟩ : Addr).add j) = some u := fun j u hj => by rw [Addr.add_lit]; exact hnews j u hj
    obtain ⟨o1, o2, o3, o4⟩ := hown
    by_cases hr : n + m ≤ cap
    · rcases o4 with h | ⟨r, off, C, rfl, hR, hb, hs, htk⟩
      · omega
      · have hle : (n + m) * size ≤ cap * size := Nat.mul_le_mul_right _ hr
        have hnl : news.length = m * size := hv.1
        have hadd : (n + m) * size = n * size + m * size := Nat.add_mul _ _ _
        have hrun := run_append_room_cells (P := P) w t ty e i ht hi r off n cap ⟨rx, ox, none⟩ m c news (by rw [hsize]; exact hv.1) hnews' h1 hr
          (fun j hj => by rw [hb.cell, hsize]; simp; omega) (fun j hj => hb.free _)
        rw [hsize] at hrun
        obtain ⟨C', c1, c2, c3, c4⟩ := setCells_heap r news (off + n * size) w C e hb (by omega)
        refine ⟨_, cap, _, hrun, ⟨hr, o2, by simp [o3, hnl, hadd], .inr ⟨r, off, C', rfl, .inl hR, c1, ?_, ?_⟩⟩, c3.mono (fun k _ h => by subst h; exact hR)⟩
        · have : C'.size = C.size := by
            have := congrArg List.length c2
            simp at this; omega
          omega
        · rw [c2, hadd]
          rw [List.append_assoc, List.drop_append_of_le_length (by simp; omega), List.drop_take, show off + n * size - off = n * size by omega]
          rw [← htk]
          have hl : (List.take (n * size) (List.drop off C.toList)).length = n * size := by simp; omega
          rw [List.take_append, List.take_of_length_le (by rw [hl]; omega), hl, List.append_cancel_left_eq, show n * size + m * size - n * size = news.length by omega, List.take_left]
    · have hge := grownCap_ge w (n + m) cap e
      have hcm : grownCap w (n + m) cap e ≤ maxLen := grownCap_le_maxLen w (n + m) cap e b1
      have hsmall : n + m ≤ 9223372036854775807 := by simp only [maxLen] at b1; omega
      have key : ∀ (old : Nat) (olds : List Value), olds = cs → ∀ X : Array Value, X = olds.toArray ++ news.toArray ++ Builtin.zeroCells z.cells (grownCap w (n + m) cap e - (n + m)) →
          OwnAt (w.drew.alloc (.cells X e)) e size (fun k => R k ∨ w.heap.size ≤ k) (some ⟨w.heap.size, 0, none⟩) (n + m) (grownCap w (n + m) cap e) (cs ++ news) := by
        intro old olds he X hX
        subst he
        have hXs : X.size = grownCap w (n + m) cap e * size := by
          rw [hX]
          simp only [Array.size_append, List.size_toArray, size_zeroCells, hzs, o3, hv.1, ← Nat.add_mul]
          congr 1; omega
        have h2 := OwnAt.newRow (E := e) (sz := size) (R := fun k => R k ∨ w.heap.size ≤ k) (n := n + m) (C := X) w.drew (.inr (Nat.le_refl _)) hcm hge hXs
        have e2 : X.toList.take ((n + m) * size) = olds ++ news := by
          rw [hX]
          simp only [Array.toList_append, List.append_assoc]
          rw [← List.append_assoc]
          exact List.take_left' (by simp [o3, hv.1, Nat.add_mul])
        rw [e2] at h2
        exact h2
      have frame : ∀ X, Fr R w (w.drew.alloc X) := fun X => ((Fr.refl R w).drew).alloc X
      rcases o4 with h | ⟨r, off, C, rfl, hR, hb, hs, htk⟩
      · have hn0 : n = 0 := by omega
        have hcs : cs = [] := List.eq_nil_of_length_eq_zero (by rw [o3, hn0]; simp)
        subst h; subst hn0; subst hcs
        subst hsize; subst hby
        cases ao with
        | none =>
          have hrun := run_append_nil (P := P) w t ty e i z ht hi hz ⟨rx, ox, none⟩ m c news hv.1 hnews' (by omega) (by omega) (by rw [Nat.zero_add] at b2; omega)
          refine ⟨_, _, _, by simpa using hrun, ?_, frame _⟩
          have := key 0 [] rfl _ rfl
          simpa using this
        | some b =>
          have hrun := run_append_grow (P := P) w t ty e i z ht hi hz b 0 0 [] (by simp) (by simp) ⟨rx, ox, none⟩ m c news hv.1 hnews' (by omega) (by omega) (growslice_fits (by omega) b2)
          exact ⟨_, _, _, hrun, key 0 [] rfl _ rfl, frame _⟩
      · have hv0 : Vw w size R (some ⟨r, off, none⟩) n cs := OwnAt.vw (E := e) (cap := cap) ⟨o1, o2, o3, .inr ⟨r, off, C, rfl, hR, hb, hs, htk⟩⟩
        have holds : ∀ j u, cs[j]? = some u → w.cell? ((⟨r, off, none⟩ : Addr).add j) = some u := by
          intro j u hj
          rw [Addr.add_lit]
          have hne' : cs ≠ [] := by intro h; rw [h] at hj; simp at hj
          obtain ⟨r', o', e', _, hc⟩ := hv0.cell hne'
          simp at e'
          obtain ⟨rfl, rfl⟩ := e'
          exact hc j u hj
        subst hsize; subst hby
        have hrun := run_append_grow (P := P) w t ty e i z ht hi hz ⟨r, off, none⟩ n cap cs o3 holds ⟨rx, ox, none⟩ m c news hv.1 hnews' (by omega) (by omega) (growslice_fits (by omega) b2)
        exact ⟨_, _, _, hrun, key 0 cs rfl _ rfl, frame _⟩
end

/-- append, for the walk. -/
theorem wpList_append_Own {P : Program} (w : World) {ops : Array Oper} {rest : List Oper} {o : Oper} {a : Act} {Q : Exit → Act → World → Prop}
    (hg : o.guard = none) (s x : Operand) (t : TypeId) (hop : o.op = Op.call { callee := Callee.builtin Builtin.append, args := #[s, x], argTypes := #[t, t] })
    (e : TypeId) (i : TypeInfo) (z : Value) (size bytes : Nat) (h1 : P.underlying t = some (.slice e)) (h2 : P.info? e = some i) (h3 : i.zero = some z) (h4 : i.size = size) (h5 : i.bytes = bytes) (h6 : z.cells.size = size) (h7 : 0 < size)
    (R R2 : Nat → Prop) (ao : Option Addr) (n cap : Nat) (cs : List Value) (hs : a.eval s = .slice ao n cap) (hown : OwnAt w e size R ao n cap cs)
    (ax : Option Addr) (m c : Nat) (news : List Value) (hx : a.eval x = .slice ax m c) (hv : Vw w size R2 ax m news) (h1c : ∀ u ∈ news, u.oneCell' = true)
    (b1 : n + m ≤ maxLen) (b2 : (n + m) * bytes ≤ 140737488355328)
    (hK : ∀ ao' cap' w', OwnAt w' e size (fun k => R k ∨ w.heap.size ≤ k) ao' (n + m) cap' (cs ++ news) → Fr R w w' → wpList P ops Q rest (a.put o.dst (.slice ao' (n + m) cap')) w') :
    wpList P ops Q (o :: rest) a w := by
  refine wpList_plain hg fun K hK' => ?_
  obtain ⟨ao', cap', w', hrun, r1, r2⟩ := run_append_Own (P := P) w t o.type e i z size bytes h1 h2 h3 h4 h5 h6 h7 R R2 ao n cap cs hown ax m c news hv h1c b1 b2
  unfold Oper.wp
  simp [execOp, hop, resolve, invoke, builtin, hs, hx, hrun, Result.andThen]
  exact hK' _ _ (hK ao' cap' w' r1 r2)

theorem run_min3_nat {P : Program} (ts : Array TypeId) (t : TypeId) (a b c d : Nat) (hd : d = min a (min b c)) (w : World) :
    (Builtin.min_ ts t #[.int .i64 (a : Int), .int .i64 (b : Int), .int .i64 (c : Int)]).run P w = .ok (.int .i64 (d : Int)) w := by
  subst hd
  simp only [Builtin.min_]
  simp [List.foldlM_cons, List.foldlM_nil, Builtin.min2]
  split <;> split <;> omega

#print axioms wpList_append_Own
end Go.Proofs.YtfiebpcambdbaaaDoor
