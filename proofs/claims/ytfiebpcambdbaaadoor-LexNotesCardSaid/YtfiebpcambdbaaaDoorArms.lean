/-
  Arms of walks for any seat: a block is made, stored into, looked at, one cell of it is set.
-/
import Derived.Test.YtfiebpcambdbaaaDoorWhole
set_option linter.unusedVariables false
set_option linter.unusedSimpArgs false
set_option maxHeartbeats 4000000
set_option maxRecDepth 8000
namespace Go.Proofs.YtfiebpcambdbaaaDoor
open Go.RowKit
variable {P : Program}

/-- A box is made, as an arm of a walk takes it. -/
theorem wpList_boxA {ops : Array Oper} {rest : List Oper} {dst : Option Tmp} {ty tt : TypeId} {x : Operand} {ps : String} {af : Array Edge} {a : Act} {w : World} {Q : Exit → Act → World → Prop} {v : Value} (C : Array Value) (zbx : a.eval x = v) (zbc : v.cells = C)
    (zbK : ∀ w', Blk w' w.heap.size C ty → Fr (fun _ => False) w w' → w'.heap.size = w.heap.size + 1 → wpList P ops Q rest (a.put dst (.pointer (some ⟨w.heap.size, 0, none⟩))) w') : wpList P ops Q (⟨dst, .box ty x, tt, ps, af, none⟩ :: rest) a w :=
  wpList_boxF rfl rfl zbx (by rw [zbc]; exact zbK)
/-- One cell of a block is set, as an arm of a walk takes it. -/
theorem wpList_setA {ops : Array Oper} {rest : List Oper} {dst : Option Tmp} {ty tt : TypeId} {x y : Operand} {ps : String} {af : Array Edge} {a : Act} {w : World} {Q : Exit → Act → World → Prop} {b o : Nat} {C : Array Value} {T : TypeId} {v : Value}
    (zcx : a.eval x = .pointer (some ⟨b, o, none⟩)) (zcy : a.eval y = v) (zcv : v.cells = #[v]) (zc1 : v.oneCell' = true) (zcn : o < C.size) (zci : (P.info? ty).map (·.size) = some 1) (zcb : Blk w b C T)
    (zcK : ∀ w', Blk w' b (C.setIfInBounds o v) T → Fr (fun k => k = b) w w' → w'.heap.size = w.heap.size → wpList P ops Q rest (a.put dst undef) w') : wpList P ops Q (⟨dst, .store ty x y, tt, ps, af, none⟩ :: rest) a w :=
  wpList_setF zcb rfl rfl zcx zcy zcv zc1 zcn zci zcK
/-- A whole block is looked at. -/
theorem wpList_loadA {ops : Array Oper} {rest : List Oper} {dst : Option Tmp} {ty tt : TypeId} {x : Operand} {ps : String} {af : Array Edge} {a : Act} {w : World} {Q : Exit → Act → World → Prop} {b : Nat} {C : Array Value} {T : TypeId} {d : TypeDesc} (zlx : a.eval x = .pointer (some ⟨b, 0, none⟩)) (zlu : P.underlying ty = some d) (zld : d.isRow = true) (zli : (P.info? ty).map (·.size) = some C.size) (zlb : Blk w b C T)
    (zlK : wpList P ops Q rest (a.put dst (.agg C)) w) : wpList P ops Q (⟨dst, .load ty x, tt, ps, af, none⟩ :: rest) a w := by
  refine wpList_loadB C.toList zlb (fun j v hj => by simpa using hj) rfl rfl zlx zlu zld (by simpa using zli) ?_
  simpa using zlK
/-- Made, then stored into: as one. -/
theorem fr_made {w wA wS : World} {b : Nat} (hA : Fr (fun _ => False) w wA) (hS : Fr (fun k => k = b) wA wS) (hb : w.heap.size ≤ b) : Fr (fun _ => False) w wS := hA.trans hS (fun z hz h => by omega)
end Go.Proofs.YtfiebpcambdbaaaDoor
