/-
  Maps whose keys are integers, as functions: made, asked, stored into, deleted from; no condition.
-/
import Derived.Test.YtfiebpcambdbaaaDoorMem
import Derived.Maps.Keyed
set_option linter.unusedVariables false
set_option linter.unusedSimpArgs false
set_option maxHeartbeats 4000000
set_option maxRecDepth 8000
namespace Go.Proofs.YtfiebpcambdbaaaDoor
open Go.RowKit Go.ChangeMaps

def lookL (l : List (Int × Value)) (n : Int) : Option Value := (l.find? fun p => p.1 == n).map (·.2)

def kvOf (e : MapEntry) : Value × Value := (e.key, e.val)
def kvIn (k : IntKind) (p : Int × Value) : Value × Value := (.int k p.1, p.2)

/-- Block b is a map, each of whose keys is there once; at n it holds f n. -/
def MapF (w : World) (b : Nat) (k : IntKind) (f : Int → Option Value) : Prop :=
  ∃ es clock, w.heap[b]? = some (.map es clock) ∧ ∃ l : List (Int × Value), es.toList.map kvOf = l.map (kvIn k) ∧ (l.map (·.1)).Nodup ∧ ∀ n, lookL l n = f n

def upd (f : Int → Option Value) (n : Int) (v : Option Value) : Int → Option Value := fun x => if x = n then v else f x

namespace MapF
variable {w w1 : World} {b : Nat} {k : IntKind} {f : Int → Option Value}

theorem lt (h : MapF w b k f) : b < w.heap.size := by
  obtain ⟨es, c, h, _⟩ := h
  exact (Array.getElem?_eq_some_iff.1 h).1

theorem fr {S : Nat → Prop} (h : MapF w b k f) (hf : Fr S w w1) (hn : ¬ S b) : MapF w1 b k f := by
  have hl := h.lt
  obtain ⟨es, c, h1, h2⟩ := h
  exact ⟨es, c, (hf.block b hl hn).trans h1, h2⟩

theorem made (w : World) (k : IntKind) : MapF (w.alloc (.map #[] 0)) w.heap.size k (fun _ => none) :=
  ⟨#[], 0, heap_alloc_new w _, [], by simp, by simp, fun n => by simp [lookL]⟩
end MapF

theorem lookL_cons (p : Int × Value) (l : List (Int × Value)) (n : Int) : lookL (p :: l) n = if p.1 = n then some p.2 else lookL l n := by
  unfold lookL
  rw [List.find?_cons]
  by_cases h : p.1 = n
  · simp [h]
  · have : (p.1 == n) = false := by simpa using h
    simp [this, h]

theorem findNow_int {k : IntKind} (q : IntKind) (n : Int) : ∀ (l : List (Int × Value)) (es : List MapEntry) (i : Nat), es.map kvOf = l.map (kvIn k) →
    (lookL l n = none ∧ n ∉ l.map (·.1) ∧ Instr.findNow (.int q) (.int k n) es i = some none) ∨
    ∃ j v, l[j]? = some (n, v) ∧ lookL l n = some v ∧ Instr.findNow (.int q) (.int k n) es i = some (some (i + j, v))
  | [], es, i, h => by
    obtain rfl : es = [] := by simpa using h
    exact .inl ⟨rfl, by simp, rfl⟩
  | p :: l, [], i, h => by simp at h
  | (m, v) :: l, e :: es, i, h => by
    simp only [List.map_cons, List.cons.injEq, kvOf, kvIn, Prod.mk.injEq] at h
    obtain ⟨⟨hk, hv⟩, hr⟩ := h
    rw [lookL_cons]
    by_cases hmn : m = n
    · subst hmn
      refine .inr ⟨0, v, rfl, by simp, ?_⟩
      simp [Instr.findNow, Instr.sameNow, hk, hv]
    · have hb : (n == m) = false := by simpa using fun h => hmn h.symm
      have hf : Instr.findNow (.int q) (.int k n) (e :: es) i = Instr.findNow (.int q) (.int k n) es (i + 1) := by
        simp [Instr.findNow, Instr.sameNow, hk, hb]
      rw [hf, if_neg hmn]
      rcases findNow_int q n l es (i + 1) hr with ⟨h1, h2, h3⟩ | ⟨j, u, h1, h2, h3⟩
      · exact .inl ⟨h1, by simp at h2 ⊢; exact ⟨fun e => hmn e.symm, h2⟩, h3⟩
      · exact .inr ⟨j + 1, u, by simpa using h1, h2, by rw [h3]; congr 3; omega⟩

theorem lookL_set (n : Int) (v : Value) (m : Int) : ∀ (l : List (Int × Value)) (j : Nat) (u : Value), l[j]? = some (n, u) → (l.map (·.1)).Nodup → lookL (l.set j (n, v)) m = if m = n then some v else lookL l m
  | [], j, u, h, _ => by simp at h
  | p :: l, 0, u, h, _ => by
    simp at h
    subst h
    simp only [List.set_cons_zero, lookL_cons]
    by_cases hm : n = m
    · subst hm; simp
    · rw [if_neg hm, if_neg (fun e => hm e.symm)]
      first | rfl | rw [if_neg hm]
  | p :: l, j + 1, u, h, hd => by
    simp only [List.set_cons_succ, lookL_cons]
    simp only [List.map_cons, List.nodup_cons] at hd
    have h' : l[j]? = some (n, u) := by simpa using h
    rw [lookL_set n v m l j u h' hd.2]
    have hn : n ∈ l.map (·.1) := List.mem_map.2 ⟨(n, u), List.mem_of_getElem? h', rfl⟩
    by_cases hm : m = n
    · subst hm
      have : p.1 ≠ m := fun e => hd.1 (e ▸ hn)
      simp [this]
    · simp [hm]

theorem lookL_snoc (n : Int) (v : Value) (m : Int) : ∀ (l : List (Int × Value)), n ∉ l.map (·.1) → lookL (l ++ [(n, v)]) m = if m = n then some v else lookL l m
  | [], _ => by
    simp only [List.nil_append, lookL_cons]
    by_cases hm : n = m
    · subst hm; simp
    · rw [if_neg hm, if_neg (fun e => hm e.symm)]
      try rfl
  | p :: l, h => by
    simp only [List.map_cons, List.mem_cons, not_or] at h
    simp only [List.cons_append, lookL_cons]
    rw [lookL_snoc n v m l h.2]
    by_cases hm : m = n
    · subst hm
      rw [if_pos rfl, if_neg (fun e => h.1 e.symm), if_pos rfl]
    · simp [hm]

theorem lookL_erase (n : Int) (m : Int) : ∀ (l : List (Int × Value)) (j : Nat) (u : Value), l[j]? = some (n, u) → (l.map (·.1)).Nodup → lookL (l.eraseIdx j) m = if m = n then none else lookL l m
  | [], j, u, h, _ => by simp at h
  | p :: l, 0, u, h, hd => by
    simp at h
    subst h
    simp only [List.map_cons, List.nodup_cons] at hd
    simp only [List.eraseIdx_cons_zero, lookL_cons]
    by_cases hm : m = n
    · subst hm
      have : l.find? (fun p => p.1 == m) = none := by
        rw [List.find?_eq_none]
        intro q hq e
        exact hd.1 (List.mem_map.2 ⟨q, hq, by simpa using e⟩)
      simp [lookL, this]
    · rw [if_neg (fun e : n = m => hm e.symm), if_neg hm]
  | p :: l, j + 1, u, h, hd => by
    simp only [List.eraseIdx_cons_succ, lookL_cons]
    simp only [List.map_cons, List.nodup_cons] at hd
    have h' : l[j]? = some (n, u) := by simpa using h
    rw [lookL_erase n m l j u h' hd.2]
    have hn : n ∈ l.map (·.1) := List.mem_map.2 ⟨(n, u), List.mem_of_getElem? h', rfl⟩
    by_cases hm : m = n
    · subst hm
      have : p.1 ≠ m := fun e => hd.1 (e ▸ hn)
      simp [this]
    · simp [hm]

section
variable {P : Program} {w : World} {b : Nat} {k : IntKind} {f : Int → Option Value} {t kt et : TypeId}

theorem run_findKey_int (hk : P.underlying kt = some (.int k)) (n : Int) (es : List MapEntry) {r : Option (Nat × Value)} (h : Instr.findNow (.int k) (.int k n) es 0 = some r) (w : World) :
    (Instr.findKey kt (.int k n) es).run P w = .ok r w := by
  simp [Instr.findKey, run_underlying hk, h, Result.andThen]

theorem run_check_int (hk : P.underlying kt = some (.int k)) (e : Bool) (n : Int) (w : World) : (Instr.checkKey e 10000 kt (.int k n)).run P w = .ok () w := by
  unfold Instr.checkKey
  simp [run_underlying hk, Result.andThen]

theorem run_zero {e : TypeId} {z : Value} (h : (P.info? e).map (fun i => i.zero) = some (some z)) (w : World) : (zeroValue e).run P w = .ok z w := by
  cases hi : P.info? e with
  | none => rw [hi] at h; cases h
  | some i =>
    rw [hi] at h
    simp only [Option.map_some, Option.some.injEq] at h
    simp [zeroValue, typeInfo, hi, h, Result.andThen]

theorem run_look (ht : P.underlying t = some (.map kt et)) (hk : P.underlying kt = some (.int k)) (h : MapF w b k f) (n : Int) {z : Value} (hz : (zeroValue et).run P w = .ok z w) (ok : Bool) :
    (Instr.lookup t (.map (some b)) (.int k n) ok).run P w = .ok (if ok then .tuple #[(f n).getD z, .bool (f n).isSome] else (f n).getD z) w := by
  obtain ⟨es, c, hb, l, h1, h2, h3⟩ := h
  rcases findNow_int (k := k) k n l es.toList 0 h1 with ⟨g1, g2, g3⟩ | ⟨j, v, g1, g2, g3⟩
  · rw [← h3 n, g1]
    simp [Instr.lookup, run_underlying ht, MapKept.run_getObj_map hb, run_check_int hk, run_findKey_int hk n _ g3, hz, Result.andThen]
  · rw [← h3 n, g2]
    simp [Instr.lookup, run_underlying ht, MapKept.run_getObj_map hb, run_check_int hk, run_findKey_int hk n _ g3, Result.andThen]

theorem setBlock_fr (w : World) (b : Nat) (o : Obj) (hb : b < w.heap.size) : Fr (fun x => x = b) w (setBlock w b o) ∧ (setBlock w b o).heap[b]? = some o := by
  refine ⟨⟨rfl, rfl, rfl, by simp [setBlock], fun x hx hn => ?_⟩, by simp [setBlock, hb]⟩
  simp only [setBlock]
  rw [Array.getElem?_setIfInBounds_ne (fun h => hn h.symm)]

theorem run_store (ht : P.underlying t = some (.map kt et)) (hk : P.underlying kt = some (.int k)) (h : MapF w b k f) (n : Int) (v : Value) :
    ∃ w1, (Instr.mapUpdate t (.map (some b)) (.int k n) v).run P w = .ok () w1 ∧ MapF w1 b k (upd f n (some v)) ∧ Fr (fun x => x = b) w w1 := by
  have hlt := h.lt
  obtain ⟨es, c, hb, l, h1, h2, h3⟩ := h
  rcases findNow_int (k := k) k n l es.toList 0 h1 with ⟨g1, g2, g3⟩ | ⟨j, u, g1, g2, g3⟩
  · obtain ⟨f1, f2⟩ := setBlock_fr w b (.map (es.push ⟨.int k n, v, c⟩) (c + 1)) hlt
    refine ⟨_, ?_, ⟨_, _, f2, l ++ [(n, v)], by simp [h1, kvOf, kvIn], ?_, fun m => ?_⟩, f1⟩
    · simp [Instr.mapUpdate, run_underlying ht, MapKept.run_getObj_map hb, run_check_int hk, run_findKey_int hk n _ g3, MapKept.run_setObj_map _ hb, Result.andThen, setBlock]
    · rw [List.map_append, List.nodup_append]
      exact ⟨h2, by simp, fun a ha b hb => by simp at hb; subst hb; exact fun e => g2 (e ▸ ha)⟩
    · rw [lookL_snoc n v m l g2, h3 m]; rfl
  · have hle : l.length = es.size := by have := congrArg List.length h1; simpa using this.symm
    obtain ⟨hj, hje⟩ := List.getElem?_eq_some_iff.1 g1
    have hkey : es[j]?.map (·.key) = some (.int k n) := by
      have h4 := congrArg (·[j]?) h1
      simp only [List.getElem?_map, g1, Option.map_some, kvIn] at h4
      rw [Array.getElem?_toList] at h4
      cases he : es[j]? with
      | none => rw [he] at h4; simp at h4
      | some e => rw [he] at h4; simp [kvOf] at h4; simp [h4.1]
    obtain ⟨f1, f2⟩ := setBlock_fr w b (.map (es.modify j fun e => { e with key := .int k n, val := v }) c) hlt
    refine ⟨_, ?_, ⟨_, _, f2, l.set j (n, v), ?_, ?_, fun m => ?_⟩, f1⟩
    · have g4 : Instr.findNow (.int k) (.int k n) es.toList 0 = some (some (j, u)) := by simpa using g3
      simp [Instr.mapUpdate, run_underlying ht, MapKept.run_getObj_map hb, run_check_int hk, run_findKey_int hk n _ g4, MapKept.run_setObj_map _ hb, Result.andThen, setBlock, hkey, Instr.keyThatStays, Instr.sameBits]
    · apply List.ext_getElem?
      intro i
      have h4 := congrArg (·[i]?) h1
      simp only [List.getElem?_map, Array.getElem?_toList] at h4
      simp only [List.getElem?_map, Array.getElem?_toList, Array.getElem?_modify, List.getElem?_set]
      by_cases hij : j = i
      · subst hij
        simp [hj, kvOf, kvIn]
        have : j < es.size := by omega
        simp [this]
      · simp [hij, h4]
    · rw [List.map_set]
      have : (l.map (·.1)).set j n = l.map (·.1) := by
        apply List.ext_getElem?
        intro i
        rw [List.getElem?_set]
        by_cases hij : j = i
        · subst hij; simp [hj, hje]
        · simp [hij]
      rw [this]; exact h2
    · rw [lookL_set n v m l j u g1 h2, h3 m]; rfl

theorem run_drop {ty : TypeId} (ht : P.underlying t = some (.map kt et)) (hk : P.underlying kt = some (.int k)) (h : MapF w b k f) (n : Int) (ts : Array TypeId) (hts : ts[0]? = some t) :
    ∃ w1, (Builtin.delete_ ts ty #[.map (some b), .int k n]).run P w = .ok (.tuple #[]) w1 ∧ MapF w1 b k (upd f n none) ∧ Fr (fun x => x = b) w w1 := by
  have hlt := h.lt
  obtain ⟨es, c, hb, l, h1, h2, h3⟩ := h
  rcases findNow_int (k := k) k n l es.toList 0 h1 with ⟨g1, g2, g3⟩ | ⟨j, u, g1, g2, g3⟩
  · obtain ⟨f1, f2⟩ := setBlock_fr w b (.map es c) hlt
    refine ⟨_, ?_, ⟨_, _, f2, l, h1, h2, fun m => ?_⟩, f1⟩
    · simp [Builtin.delete_, hts, run_underlying ht, MapKept.run_getObj_map hb, run_check_int hk, run_findKey_int hk n _ g3, MapKept.run_setObj_map _ hb, Result.andThen, setBlock]
    · unfold upd
      split
      · rename_i e; subst e; exact g1
      · exact h3 m
  · obtain ⟨f1, f2⟩ := setBlock_fr w b (.map (es.eraseIdxIfInBounds j) c) hlt
    refine ⟨_, ?_, ⟨_, _, f2, l.eraseIdx j, ?_, ?_, fun m => ?_⟩, f1⟩
    · have g4 : Instr.findNow (.int k) (.int k n) es.toList 0 = some (some (j, u)) := by simpa using g3
      simp [Builtin.delete_, hts, run_underlying ht, MapKept.run_getObj_map hb, run_check_int hk, run_findKey_int hk n _ g4, MapKept.run_setObj_map _ hb, Result.andThen, setBlock]
    · rw [Array.toList_eraseIdxIfInBounds, map_eraseIdx, map_eraseIdx, h1]
    · rw [map_eraseIdx]
      exact (List.eraseIdx_sublist _ _).nodup h2
    · rw [lookL_erase n m l j u g1 h2, h3 m]; rfl
/-- A store into a map, at its place in a walk; 'o' is Op.insert or Op.mapUpdate. -/
theorem wpList_insert {w : World} {ops : Array Oper} {rest : List Oper} {o : Oper} {a : Act} {Q : Exit → Act → World → Prop} (hg : o.guard = none) (m x v : Operand) (hop : o.op = Op.insert t m x v ∨ o.op = Op.mapUpdate t m x v)
    (ht : P.underlying t = some (.map kt et)) (hk : P.underlying kt = some (.int k)) (hm : a.eval m = .map (some b)) {n : Int} (hx : a.eval x = .int k n) (hf : MapF w b k f) {u : Value} (hv : a.eval v = u)
    (hK : ∀ w', MapF w' b k (upd f n (some u)) → Fr (fun x => x = b) w w' → wpList P ops Q rest (a.put o.dst undef) w') : wpList P ops Q (o :: rest) a w := by
  refine wpList_plain hg fun K hK' => ?_
  obtain ⟨w1, hrun, r1, r2⟩ := run_store ht hk hf n u
  unfold Oper.wp
  rcases hop with hop | hop <;>
  · simp [execOp, hop, hm, hx, hv, hrun, Result.andThen]
    exact hK' _ _ (hK w1 r1 r2)

theorem wpList_drop {w : World} {ops : Array Oper} {rest : List Oper} {o : Oper} {a : Act} {Q : Exit → Act → World → Prop} (hg : o.guard = none) (m x : Operand) (ts : Array TypeId) (hop : o.op = Op.call { callee := Callee.builtin Builtin.delete, args := #[m, x], argTypes := ts }) (hts : ts[0]? = some t)
    (ht : P.underlying t = some (.map kt et)) (hk : P.underlying kt = some (.int k)) (hm : a.eval m = .map (some b)) {n : Int} (hx : a.eval x = .int k n) (hf : MapF w b k f)
    (hK : ∀ w', MapF w' b k (upd f n none) → Fr (fun x => x = b) w w' → wpList P ops Q rest (a.put o.dst (.tuple #[])) w') : wpList P ops Q (o :: rest) a w := by
  refine wpList_plain hg fun K hK' => ?_
  obtain ⟨w1, hrun, r1, r2⟩ := run_drop (ty := o.type) ht hk hf n ts hts
  unfold Oper.wp
  simp [execOp, hop, resolve, invoke, builtin, hm, hx, hrun, Result.andThen]
  exact hK' _ _ (hK w1 r1 r2)
end
end Go.Proofs.YtfiebpcambdbaaaDoor
