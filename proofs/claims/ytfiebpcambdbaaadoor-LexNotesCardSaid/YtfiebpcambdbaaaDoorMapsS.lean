/-
  Maps whose keys are strings, made by a literal and asked.
-/
import Derived.Test.YtfiebpcambdbaaaDoorMaps
set_option linter.unusedVariables false
set_option linter.unusedSimpArgs false
set_option maxHeartbeats 4000000
set_option maxRecDepth 8000
namespace Go.Proofs.YtfiebpcambdbaaaDoor
open Go.RowKit Go.ChangeMaps

def kvS (p : ByteArray × Value) : Value × Value := (.string p.1, p.2)
/-- Block b is a map that holds these, in this order. -/
def MapS (w : World) (b : Nat) (l : List (ByteArray × Value)) : Prop := ∃ es clock, w.heap[b]? = some (.map es clock) ∧ es.toList.map kvOf = l.map kvS
def lookS (l : List (ByteArray × Value)) (s : ByteArray) : Option Value := (l.find? fun p => s == p.1).map (·.2)
namespace MapS
variable {w w1 : World} {b : Nat} {l : List (ByteArray × Value)}
theorem lt (h : MapS w b l) : b < w.heap.size := by
  obtain ⟨es, c, h, _⟩ := h
  exact (Array.getElem?_eq_some_iff.1 h).1
theorem fr {S : Nat → Prop} (h : MapS w b l) (hf : Fr S w w1) (hn : ¬ S b) : MapS w1 b l := by
  have hl := h.lt
  obtain ⟨es, c, h1, h2⟩ := h
  exact ⟨es, c, (hf.block b hl hn).trans h1, h2⟩
theorem made (w : World) : MapS (w.alloc (.map #[] 0)) w.heap.size [] := ⟨#[], 0, heap_alloc_new w _, by simp⟩
end MapS
theorem findNow_str (s : ByteArray) : ∀ (l : List (ByteArray × Value)) (es : List MapEntry) (i : Nat), es.map kvOf = l.map kvS →
    (lookS l s = none ∧ Instr.findNow .string (.string s) es i = some none) ∨ ∃ j v, lookS l s = some v ∧ Instr.findNow .string (.string s) es i = some (some (j, v))
  | [], es, i, h => by
    obtain rfl : es = [] := by simpa using h
    exact .inl ⟨rfl, rfl⟩
  | p :: l, [], i, h => by simp at h
  | (m, v) :: l, e :: es, i, h => by
    simp only [List.map_cons, List.cons.injEq, kvOf, kvS, Prod.mk.injEq] at h
    obtain ⟨⟨hk, hv⟩, hr⟩ := h
    cases hb : (s == m) with
    | true =>
      refine .inr ⟨i, v, by simp [lookS, hb], ?_⟩
      simp [Instr.findNow, Instr.sameNow, hk, hv, hb]
    | false =>
      have hf : Instr.findNow .string (.string s) (e :: es) i = Instr.findNow .string (.string s) es (i + 1) := by
        simp [Instr.findNow, Instr.sameNow, hk, hb]
      have hl : lookS ((m, v) :: l) s = lookS l s := by simp [lookS, hb]
      rw [hf, hl]
      exact findNow_str s l es (i + 1) hr
section
variable {P : Program} {w : World} {b : Nat} {l : List (ByteArray × Value)} {t kt et : TypeId}
theorem run_findKey_str (hk : P.underlying kt = some .string) (s : ByteArray) (es : List MapEntry) {r : Option (Nat × Value)} (h : Instr.findNow .string (.string s) es 0 = some r) (w : World) :
    (Instr.findKey kt (.string s) es).run P w = .ok r w := by
  simp [Instr.findKey, run_underlying hk, h, Result.andThen]
theorem run_check_str (hk : P.underlying kt = some .string) (e : Bool) (s : ByteArray) (w : World) : (Instr.checkKey e 10000 kt (.string s)).run P w = .ok () w := by
  unfold Instr.checkKey
  simp [run_underlying hk, Result.andThen]
theorem run_lookS (ht : P.underlying t = some (.map kt et)) (hk : P.underlying kt = some .string) (h : MapS w b l) (s : ByteArray) {z : Value} (hz : (zeroValue et).run P w = .ok z w) :
    (Instr.lookup t (.map (some b)) (.string s) false).run P w = .ok ((lookS l s).getD z) w := by
  obtain ⟨es, c, hb, h1⟩ := h
  rcases findNow_str s l es.toList 0 h1 with ⟨g1, g3⟩ | ⟨j, v, g1, g3⟩
  · rw [g1]
    simp [Instr.lookup, run_underlying ht, MapKept.run_getObj_map hb, run_check_str hk, run_findKey_str hk s _ g3, hz, Result.andThen]
  · rw [g1]
    simp [Instr.lookup, run_underlying ht, MapKept.run_getObj_map hb, run_check_str hk, run_findKey_str hk s _ g3, Result.andThen]
theorem run_storeS (ht : P.underlying t = some (.map kt et)) (hk : P.underlying kt = some .string) (h : MapS w b l) (s : ByteArray) (v : Value) (hn : lookS l s = none) :
    ∃ w1, (Instr.mapUpdate t (.map (some b)) (.string s) v).run P w = .ok () w1 ∧ MapS w1 b (l ++ [(s, v)]) ∧ Fr (fun x => x = b) w w1 := by
  have hlt := h.lt
  obtain ⟨es, c, hb, h1⟩ := h
  rcases findNow_str s l es.toList 0 h1 with ⟨g1, g3⟩ | ⟨j, u, g1, g3⟩
  · obtain ⟨f1, f2⟩ := setBlock_fr w b (.map (es.push ⟨.string s, v, c⟩) (c + 1)) hlt
    refine ⟨_, ?_, ⟨_, _, f2, by simp [h1, kvOf, kvS]⟩, f1⟩
    simp [Instr.mapUpdate, run_underlying ht, MapKept.run_getObj_map hb, run_check_str hk, run_findKey_str hk s _ g3, MapKept.run_setObj_map _ hb, Result.andThen, setBlock]
  · rw [hn] at g1; cases g1
/-- A pair of a map's literal, as an arm of a walk takes it. -/
theorem wpList_insS {w : World} {ops : Array Oper} {rest : List Oper} {dst : Option Tmp} {m x v : Operand} {tt : TypeId} {ps : String} {af : Array Edge} {a : Act} {Q : Exit → Act → World → Prop} (zit : P.underlying t = some (.map kt et)) (zik : P.underlying kt = some .string)
    {s : ByteArray} {u : Value} (zim : a.eval m = .map (some b)) (zix : a.eval x = .string s) (ziv : a.eval v = u) (zif : MapS w b l) (zin : lookS l s = none)
    (ziK : ∀ w', MapS w' b (l ++ [(s, u)]) → Fr (fun x => x = b) w w' → wpList P ops Q rest (a.put dst undef) w') : wpList P ops Q (⟨dst, .insert t m x v, tt, ps, af, none⟩ :: rest) a w := by
  refine wpList_plain rfl fun K hK' => ?_
  obtain ⟨w1, hrun, r1, r2⟩ := run_storeS zit zik zif s u zin
  unfold Oper.wp
  simp [execOp, zim, zix, ziv, hrun, Result.andThen]
  exact hK' _ _ (ziK w1 r1 r2)
end
end Go.Proofs.YtfiebpcambdbaaaDoor
