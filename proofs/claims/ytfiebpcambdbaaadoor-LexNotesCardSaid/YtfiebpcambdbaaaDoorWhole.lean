/-
  Structs and arrays by value: a block that is known whole is stored into, loaded from, and handed back.
-/
import Derived.Test.YtfiebpcambdbaaaDoorMem
import Derived.Deep.MidRow
set_option linter.unusedVariables false
set_option linter.unusedSimpArgs false
set_option maxHeartbeats 4000000
set_option maxRecDepth 8000
namespace Go.Proofs.YtfiebpcambdbaaaDoor
open Go.RowKit

theorem Blk.new' {w : World} {b : Nat} {cs : Array Value} {T : TypeId} (h : b = w.heap.size) : Blk (w.alloc (.cells cs T)) b cs T := by subst h; exact Blk.new w cs T

section
variable {P : Program}

theorem there_blk {w : World} {b : Nat} {C : Array Value} {T : TypeId} (h : Blk w b C T) (o n : Nat) (hn : o + n ≤ C.size) : w.there b o n := fun j hj => by
  refine ⟨?_, h.free _⟩
  rw [h.cell]
  simp; omega

/-- What is stored at an offset of a block. -/
theorem store_blk {w : World} {b : Nat} {C : Array Value} {T : TypeId} (h : Blk w b C T) (o : Nat) (vs : List Value) (hn : o + vs.length ≤ C.size) :
    Blk (w.setCells b o vs) b (C.toList.take o ++ vs ++ C.toList.drop (o + vs.length)).toArray T ∧ Fr (fun k => k = b) w (w.setCells b o vs) ∧ (w.setCells b o vs).heap.size = w.heap.size := by
  obtain ⟨C', h1, h2, h3, h4⟩ := setCells_heap b vs o w C T h hn
  refine ⟨?_, h3, h4⟩
  rw [← h2]
  simpa using h1

theorem wpList_storeB {ops : Array Oper} {rest : List Oper} {op : Oper} {a : Act} {w : World} {Q : Exit → Act → World → Prop} {ty : TypeId} {x y : Operand} {b o : Nat} {C cells : Array Value} {T : TypeId} (hb : Blk w b C T) (hgd : op.guard = none) (ho : op.op = .store ty x y)
    (hx : a.eval x = .pointer (some ⟨b, o, none⟩)) (hy : a.eval y = .agg cells) (hn : o + cells.size ≤ C.size) (hi : (P.info? ty).map (·.size) = some cells.size) (h1 : cells.toList.all (·.oneCell') = true)
    (h : ∀ w', Blk w' b (C.toList.take o ++ cells.toList ++ C.toList.drop (o + cells.size)).toArray T → Fr (fun k => k = b) w w' → w'.heap.size = w.heap.size → wpList P ops Q rest (a.put op.dst undef) w') : wpList P ops Q (op :: rest) a w := by
  have hs := store_blk hb o cells.toList (by simpa using hn)
  simp only [Array.length_toList] at hs
  exact wpList_store_mid hgd ty x y ho b o cells hx hy (there_blk hb o cells.size hn) hi (by rw [← Array.all_toList]; exact h1) (h _ hs.1 hs.2.1 hs.2.2)

/-- The whole block. -/
theorem wpList_storeW {ops : Array Oper} {rest : List Oper} {op : Oper} {a : Act} {w : World} {Q : Exit → Act → World → Prop} {ty : TypeId} {x y : Operand} {b : Nat} {C cells : Array Value} {T : TypeId} (hb : Blk w b C T) (hgd : op.guard = none) (ho : op.op = .store ty x y)
    (hx : a.eval x = .pointer (some ⟨b, 0, none⟩)) (hy : a.eval y = .agg cells) (hn : cells.size = C.size) (hi : (P.info? ty).map (·.size) = some cells.size) (h1 : cells.toList.all (·.oneCell') = true)
    (h : ∀ w', Blk w' b cells T → Fr (fun k => k = b) w w' → w'.heap.size = w.heap.size → wpList P ops Q rest (a.put op.dst undef) w') : wpList P ops Q (op :: rest) a w := by
  refine wpList_storeB hb hgd ho hx hy (by omega) hi h1 (fun w' h2 h3 h4 => h w' ?_ h3 h4)
  rw [show C.toList.drop (0 + cells.size) = [] by rw [List.drop_eq_nil_iff]; simp; omega] at h2
  simpa using h2

theorem load_blk {w : World} {b : Nat} {C : Array Value} {T ty : TypeId} (hb : Blk w b C T) (o : Nat) (cs : List Value) (hc : ∀ j v, cs[j]? = some v → C[o + j]? = some v) {d : TypeDesc} (hu : P.underlying ty = some d) (hd : d.isRow = true)
    (hi : (P.info? ty).map (·.size) = some cs.length) : (loadVar ty ⟨b, o, none⟩).run P w = .ok (.agg cs.toArray) w :=
  run_loadVar_mid w b o ty cs d (fun j v hj => by rw [hb.cell]; exact hc j v hj) hu hd hi

theorem wpList_loadB {ops : Array Oper} {rest : List Oper} {op : Oper} {a : Act} {w : World} {Q : Exit → Act → World → Prop} {ty : TypeId} {x : Operand} {b o : Nat} {C : Array Value} {T : TypeId} (cs : List Value) (hb : Blk w b C T) (hc : ∀ j v, cs[j]? = some v → C[o + j]? = some v) (hgd : op.guard = none) (ho : op.op = .load ty x)
    (hx : a.eval x = .pointer (some ⟨b, o, none⟩)) {d : TypeDesc} (hu : P.underlying ty = some d) (hd : d.isRow = true) (hi : (P.info? ty).map (·.size) = some cs.length)
    (h : wpList P ops Q rest (a.put op.dst (.agg cs.toArray)) w) : wpList P ops Q (op :: rest) a w :=
  wpList_load_mid hgd ty x ho b o hx cs d (fun j v hj => by rw [hb.cell]; exact hc j v hj) hu hd hi h

/-- In a still step of a drawn region, or wherever an operation is asked alone. -/
theorem run_loadB {w : World} {op : Oper} {a : Act} {ty : TypeId} {x : Operand} {b o : Nat} {C : Array Value} {T : TypeId} (cs : List Value) (hb : Blk w b C T) (hc : ∀ j v, cs[j]? = some v → C[o + j]? = some v) (ho : op.op = .load ty x)
    (hx : a.eval x = .pointer (some ⟨b, o, none⟩)) {d : TypeDesc} (hu : P.underlying ty = some d) (hd : d.isRow = true) (hi : (P.info? ty).map (·.size) = some cs.length) : (execOp a.eval op).run P w = .ok (.value (.agg cs.toArray)) w := by
  unfold execOp
  simp only [ho, hx, Instr.loadAt, Instr.sureAddr, Sem.run_bind, Sem.run_pure, Result.andThen_ok, load_blk hb o cs hc hu hd hi]

/-- The same three, as an arm of a walk takes them. -/
theorem wpList_storeA {ops : Array Oper} {rest : List Oper} {dst : Option Tmp} {ty tt : TypeId} {x y : Operand} {ps : String} {af : Array Edge} {a : Act} {w : World} {Q : Exit → Act → World → Prop} {b : Nat} {C cells : Array Value} {T : TypeId}
    (zsx : a.eval x = .pointer (some ⟨b, 0, none⟩)) (zsy : a.eval y = .agg cells) (zsn : cells.size = C.size) (zsi : (P.info? ty).map (·.size) = some cells.size) (zs1 : cells.toList.all (·.oneCell') = true) (zsb : Blk w b C T)
    (zsK : ∀ w', Blk w' b cells T → Fr (fun k => k = b) w w' → w'.heap.size = w.heap.size → wpList P ops Q rest (a.put dst undef) w') : wpList P ops Q (⟨dst, .store ty x y, tt, ps, af, none⟩ :: rest) a w :=
  wpList_storeW zsb rfl rfl zsx zsy zsn zsi zs1 zsK

theorem info_get {P : Program} {ty : TypeId} {z : Value} {n : Nat} (h : (P.info? ty).map (fun i => (i.zero, i.size)) = some (some z, n)) : ∃ i, P.info? ty = some i ∧ i.zero = some z ∧ i.size = n := by
  cases hq : P.info? ty with
  | none => rw [hq] at h; cases h
  | some i => rw [hq] at h; simp at h; exact ⟨i, rfl, h.1, h.2⟩

/-- One cell of a block. -/
theorem wpList_setF {ops : Array Oper} {rest : List Oper} {op : Oper} {a : Act} {w : World} {Q : Exit → Act → World → Prop} {ty : TypeId} {x y : Operand} {b o : Nat} {C : Array Value} {T : TypeId} {v : Value} (hb : Blk w b C T) (hgd : op.guard = none) (ho : op.op = .store ty x y)
    (hx : a.eval x = .pointer (some ⟨b, o, none⟩)) (hy : a.eval y = v) (hv : v.cells = #[v]) (h1 : v.oneCell' = true) (hn : o < C.size) (hi : (P.info? ty).map (·.size) = some 1)
    (h : ∀ w', Blk w' b (C.setIfInBounds o v) T → Fr (fun k => k = b) w w' → w'.heap.size = w.heap.size → wpList P ops Q rest (a.put op.dst undef) w') : wpList P ops Q (op :: rest) a w := by
  refine wpList_plain hgd fun K hK => ?_
  have hst := run_storeCells_cells (P := P) b o [v] 0 w (fun j hj => by
      obtain rfl : j = 0 := by simpa using hj
      rw [hb.cell]; simp [hn]) (fun j hj => by
      obtain rfl : j = 0 := by simpa using hj
      exact hb.free _) (fun u hu => by simp at hu; subst hu; exact h1)
  simp only [Nat.add_zero] at hst
  unfold Oper.wp execOp
  cases hq : P.info? ty with
  | none => simp [hq] at hi
  | some i =>
    have hs : i.size = 1 := by simpa [hq] using hi
    simp [ho, hx, hy, Instr.storeAt, Instr.sureAddr, storeVar, sizeOf, typeInfo, hq, hs, hv, hst]
    refine hK _ _ (h _ ?_ ?_ ?_)
    · exact hb.set o v
    · exact Fr.setCell (S := fun k => k = b) (Fr.refl _ w) (fun _ => rfl) v
    · simp [World.setCells]

/-- A block that is made: zeros. -/
theorem wpList_allocF {ops : Array Oper} {rest : List Oper} {op : Oper} {a : Act} {w : World} {Q : Exit → Act → World → Prop} {ty : TypeId} {z : Value} {n : Nat} (hgd : op.guard = none) (ho : op.op = .alloc ty) (hi : (P.info? ty).map (fun i => (i.zero, i.size)) = some (some z, n))
    (h : ∀ w', Blk w' w.heap.size z.cells ty → Fr (fun _ => False) w w' → w'.heap.size = w.heap.size + 1 → wpList P ops Q rest (a.put op.dst (.pointer (some ⟨w.heap.size, 0, none⟩))) w') : wpList P ops Q (op :: rest) a w := by
  refine wpList_plain hgd fun K hK => ?_
  obtain ⟨i, hq, hz, _⟩ := info_get hi
  unfold Oper.wp execOp
  simp [ho, Instr.alloc, zeroValue, typeInfo, hq, hz, newVar, newRow]
  refine hK _ _ (h _ ?_ ?_ ?_)
  · exact Blk.new w _ _
  · exact (Fr.refl _ w).alloc _
  · simp

theorem wpList_allocA {ops : Array Oper} {rest : List Oper} {dst : Option Tmp} {ty tt : TypeId} {ps : String} {af : Array Edge} {a : Act} {w : World} {Q : Exit → Act → World → Prop} {z : Value} {n : Nat} (C : Array Value) (zai : (P.info? ty).map (fun i => (i.zero, i.size)) = some (some z, n)) (zac : z.cells = C)
    (zaK : ∀ w', Blk w' w.heap.size C ty → Fr (fun _ => False) w w' → w'.heap.size = w.heap.size + 1 → wpList P ops Q rest (a.put dst (.pointer (some ⟨w.heap.size, 0, none⟩))) w') : wpList P ops Q (⟨dst, .alloc ty, tt, ps, af, none⟩ :: rest) a w :=
  wpList_allocF rfl rfl zai (by rw [zac]; exact zaK)

/-- A block that is made: a value. -/
theorem wpList_boxF {ops : Array Oper} {rest : List Oper} {op : Oper} {a : Act} {w : World} {Q : Exit → Act → World → Prop} {ty : TypeId} {x : Operand} {v : Value} (hgd : op.guard = none) (ho : op.op = .box ty x) (hx : a.eval x = v)
    (h : ∀ w', Blk w' w.heap.size v.cells ty → Fr (fun _ => False) w w' → w'.heap.size = w.heap.size + 1 → wpList P ops Q rest (a.put op.dst (.pointer (some ⟨w.heap.size, 0, none⟩))) w') : wpList P ops Q (op :: rest) a w := by
  refine wpList_plain hgd fun K hK => ?_
  unfold Oper.wp execOp
  simp [ho, hx, Instr.box, newVar, newRow]
  refine hK _ _ (h _ ?_ ?_ ?_)
  · exact Blk.new w _ _
  · exact (Fr.refl _ w).alloc _
  · simp

theorem results_c1 {fn : Func} {s : Tmp} {T : TypeId} (h : fn.results = #[.cell s T]) {tmps : Array Value} {w : World} {b : Nat} {C : Array Value} {E : TypeId} (ha : tmps.getD s undef = .pointer (some ⟨b, 0, none⟩)) (hb : Blk w b C E) {d : TypeDesc} (hu : P.underlying T = some d)
    (hd : d.isRow = true) (hi : (P.info? T).map (·.size) = some C.size) : (results fn tmps).run P w = .ok (.agg C) w := by
  have hl := load_blk (P := P) (ty := T) hb 0 C.toList (fun j v hj => by simpa using hj) hu hd (by simpa using hi)
  rw [Array.getD_eq_getD_getElem?] at ha
  simp only [results, h]
  simp [Array.mapM_eq_foldlM, ha, asAddr]
  simp at hl
  rw [hl]

theorem results_ct {fn : Func} {s t : Tmp} {T : TypeId} (h : fn.results = #[.cell s T, .tmp t]) {tmps : Array Value} {w : World} {b : Nat} {C : Array Value} {E : TypeId} (ha : tmps.getD s undef = .pointer (some ⟨b, 0, none⟩)) (hb : Blk w b C E) {d : TypeDesc} (hu : P.underlying T = some d)
    (hd : d.isRow = true) (hi : (P.info? T).map (·.size) = some C.size) : (results fn tmps).run P w = .ok (.tuple #[.agg C, tmps.getD t undef]) w := by
  have hl := load_blk (P := P) (ty := T) hb 0 C.toList (fun j v hj => by simpa using hj) hu hd (by simpa using hi)
  rw [Array.getD_eq_getD_getElem?] at ha
  simp only [results, h]
  simp [Array.mapM_eq_foldlM, ha, asAddr]
  simp at hl
  rw [hl]
  simp

end
#print axioms results_ct
end Go.Proofs.YtfiebpcambdbaaaDoor
