/-
  Arguments that came in: a struct of two rows of pairs of whole numbers, a whole number and a byte.
-/
import Derived.Test.YtbfeopakmjcapaaOpenB
set_option linter.unusedVariables false
namespace Go.Proofs.Ytbfeopakmjcapaa.Seq
open Go.RowKit Go.ChangeShapes Go.WideShapes Go.Deep

section
variable {H : Type} {enc : TypeId × Value → H} {P : Program} {w : World} {base : Nat} {spare : Nat → Bool} {held : Bool}
theorem open_two {t : TypeId} {f0 f1 f2 f3 : Field} {fs : Array Field} {e : TypeId} {fuel : Nat} {cs : List Value} {x : DataW H × List MemPlace} (ht : P.underlying t = some (.struct #[f0, f1, f2, f3])) (h0 : P.underlying f0.type = some (.slice e)) (h1 : P.underlying f1.type = some (.slice e)) (he : P.underlying e = some (.struct fs))
    (hone : oneCellFields P fs = true) (hC : P.cellsOf e = fs.size) (hint : allI64 P fs = true) (hsz : fs.size = 2) (h2 : P.underlying f2.type = some (.int .i64)) (h3 : P.underlying f3.type = some (.int .u8))
    (ho : f0.offset = 0 ∧ f1.offset = 1 ∧ f2.offset = 2 ∧ f3.offset = 3 ∧ P.cellsOf f0.type = 1 ∧ P.cellsOf f1.type = 1 ∧ P.cellsOf f2.type = 1 ∧ P.cellsOf f3.type = 1 ∧ P.cellsOf t = 4) (h : DataW.trod enc P w base spare held fuel t cs = some x) :
    ∃ (ao ag : Option Addr) (ca cg : Nat) (la lg : List (List Int)) (a b : Int), cs = [.slice ao la.length ca, .slice ag lg.length cg, .int .i64 a, .int .u8 b] ∧ la.length ≤ maxLen ∧ lg.length ≤ maxLen ∧ (∀ r ∈ la, r.length = 2) ∧ (∀ r ∈ lg, r.length = 2) ∧
      Vw w 2 (fun k => k < w.heap.size) ao la.length (ints la.flatten) ∧ Vw w 2 (fun k => k < w.heap.size) ag lg.length (ints lg.flatten) ∧ (Lit.int .i64 a).wf = true ∧ (Lit.int .u8 b).wf = true := by
  obtain ⟨o0, o1, o2, o3, c0, c1, c2, c3, ct⟩ := ho
  obtain ⟨xs, n, _, rfl, hl, hlen, hf⟩ := DataW.trod_struct ht h
  rw [ct] at hl
  match cs, hl with
  | [v0, v1, v2, v3], _ =>
    match xs, hlen with
    | [y0, y1, y2, y3], _ =>
      have g0 := hf 0 f0 rfl
      have g1 := hf 1 f1 rfl
      have g2 := hf 2 f2 rfl
      have g3 := hf 3 f3 rfl
      rw [o0, c0] at g0
      rw [o1, c1] at g1
      rw [o2, c2] at g2
      rw [o3, c3] at g3
      simp only [List.drop_zero, List.drop_succ_cons, List.take_succ_cons, List.take_zero, List.getElem?_cons_zero, List.getElem?_cons_succ] at g0 g1 g2 g3
      obtain ⟨ao, ca, la, hca, p1, p2, p3, p4, _⟩ := open_rows h0 he hone hC hint (by omega) g0
      obtain ⟨ag, cg, lg, hcg, q1, q2, q3, q4, _⟩ := open_rows h1 he hone hC hint (by omega) g1
      obtain ⟨a, ha, _, wa⟩ := DataW.trod_int h2 g2
      obtain ⟨b, hb, _, wb⟩ := DataW.trod_int h3 g3
      rw [hsz] at p3 p4 q3 q4
      simp at hca hcg ha hb
      subst hca hcg ha hb
      exact ⟨ao, ag, ca, cg, la, lg, a, b, rfl, by omega, by omega, fun r hr => (p3 r hr).1, fun r hr => (q3 r hr).1, p4, q4, wa, wb⟩
end
end Go.Proofs.Ytbfeopakmjcapaa.Seq
