/-
  Arguments that came in: a Pair of twins (an image, two memories, a size, a list).
-/
import Derived.Test.YtbfeopakmjcapaaOpenB
import Derived.Test.YtbfeopakmjcapaaBase
set_option linter.unusedVariables false
set_option linter.unusedSimpArgs false
set_option maxHeartbeats 4000000
set_option maxRecDepth 8000
namespace Go.Proofs.Ytbfeopakmjcapaa.Seq
open Go.RowKit Go.ChangeShapes Go.WideShapes Go.Deep

section
variable {H : Type} {enc : TypeId × Value → H} {P : Program} {w : World} {base : Nat} {spare : Nat → Bool} {held : Bool}
theorem open_five {t : TypeId} {f0 f1 f2 f3 f4 : Field} {fuel : Nat} {cs : List Value} {x : DataW H × List MemPlace} (ht : P.underlying t = some (.struct #[f0, f1, f2, f3, f4]))
    (ho : f0.offset = 0 ∧ f1.offset = 4 ∧ f2.offset = 5 ∧ f3.offset = 6 ∧ f4.offset = 8 ∧ P.cellsOf f0.type = 4 ∧ P.cellsOf f1.type = 1 ∧ P.cellsOf f2.type = 1 ∧ P.cellsOf f3.type = 2 ∧ P.cellsOf f4.type = 1 ∧ P.cellsOf t = 9) (h : DataW.trod enc P w base spare held fuel t cs = some x) :
    ∃ (v0 v1 v2 v3 v4 v5 v6 v7 v8 : Value) (n : Nat) (y0 y1 y2 y3 y4 : DataW H × List MemPlace), cs = [v0, v1, v2, v3, v4, v5, v6, v7, v8] ∧ DataW.trod enc P w base spare held n f0.type [v0, v1, v2, v3] = some y0 ∧ DataW.trod enc P w base spare held n f1.type [v4] = some y1 ∧
      DataW.trod enc P w base spare held n f2.type [v5] = some y2 ∧ DataW.trod enc P w base spare held n f3.type [v6, v7] = some y3 ∧ DataW.trod enc P w base spare held n f4.type [v8] = some y4 := by
  obtain ⟨o0, o1, o2, o3, o4, c0, c1, c2, c3, c4, ct⟩ := ho
  obtain ⟨xs, n, _, rfl, hl, hlen, hf⟩ := DataW.trod_struct ht h
  rw [ct] at hl
  match cs, hl with
  | [v0, v1, v2, v3, v4, v5, v6, v7, v8], _ =>
    match xs, hlen with
    | [y0, y1, y2, y3, y4], _ =>
      have g0 := hf 0 f0 rfl
      have g1 := hf 1 f1 rfl
      have g2 := hf 2 f2 rfl
      have g3 := hf 3 f3 rfl
      have g4 := hf 4 f4 rfl
      rw [o0, c0] at g0
      rw [o1, c1] at g1
      rw [o2, c2] at g2
      rw [o3, c3] at g3
      rw [o4, c4] at g4
      simp only [List.drop_zero, List.drop_succ_cons, List.take_succ_cons, List.take_zero, List.getElem?_cons_zero, List.getElem?_cons_succ] at g0 g1 g2 g3 g4
      exact ⟨v0, v1, v2, v3, v4, v5, v6, v7, v8, _, _, _, _, _, _, rfl, g0, g1, g2, g3, g4⟩
theorem open_size {t : TypeId} {f0 f1 : Field} {fuel : Nat} {cs : List Value} {x : DataW H × List MemPlace} (ht : P.underlying t = some (.struct #[f0, f1])) (h0 : P.underlying f0.type = some (.int .i64)) (h1 : P.underlying f1.type = some (.int .i64))
    (ho : f0.offset = 0 ∧ f1.offset = 1 ∧ P.cellsOf f0.type = 1 ∧ P.cellsOf f1.type = 1 ∧ P.cellsOf t = 2) (h : DataW.trod enc P w base spare held fuel t cs = some x) : ∃ a b : Int, cs = [.int .i64 a, .int .i64 b] := by
  obtain ⟨o0, o1, c0, c1, ct⟩ := ho
  obtain ⟨xs, n, _, rfl, hl, hlen, hf⟩ := DataW.trod_struct ht h
  rw [ct] at hl
  match cs, hl with
  | [v0, v1], _ =>
    match xs, hlen with
    | [y0, y1], _ =>
      have g0 := hf 0 f0 rfl
      have g1 := hf 1 f1 rfl
      rw [o0, c0] at g0
      rw [o1, c1] at g1
      simp only [List.drop_zero, List.drop_succ_cons, List.take_succ_cons, List.take_zero, List.getElem?_cons_zero, List.getElem?_cons_succ] at g0 g1
      obtain ⟨a, ha, _, wa⟩ := DataW.trod_int h0 g0
      obtain ⟨b, hb, _, wb⟩ := DataW.trod_int h1 g1
      simp at ha hb
      subst ha hb
      exact ⟨a, b, rfl⟩
end

theorem pair_in {H : Type} {enc : TypeId × Value → H} {w : World} {base : Nat} {spare : Nat → Bool} {held : Bool} {fuel : Nat} {cs : Array Value} {x : DataW H × List MemPlace} (h : DataW.trod enc Try.prog w base spare held fuel 69 cs.toList = some x) :
    ∃ (ao aa a1 a2 a3 : Option Addr) (co ac c1 c2 c3 : Nat) (qs : List ((Option Addr × Nat) × List Ins)) (al : List (Int × Int × Bool)) (wd lk room window : Int) (ma mb : List Int) (rows : List (List Int)),
      cs = #[.slice ao qs.length co, .slice aa al.length ac, .int .i64 wd, .int .i64 lk, .slice a1 ma.length c1, .slice a2 mb.length c2, .int .i64 room, .int .i64 window, .slice a3 rows.length c3] ∧
      qs.length ≤ maxLen ∧ Codes w (fun k => k < w.heap.size) ao qs ∧ (∀ q ∈ qs, q.2.length ≤ maxLen) ∧ al.length ≤ maxLen ∧ Vw w 3 (fun k => k < w.heap.size) aa al.length (al.flatMap fun a => [.int .i64 a.1, .int .i64 a.2.1, .bool a.2.2]) ∧
      ma.length ≤ maxLen ∧ Vw w 1 (fun k => k < w.heap.size) a1 ma.length (ints ma) ∧ (a1 = none → ma.length = 0) ∧ mb.length ≤ maxLen ∧ Vw w 1 (fun k => k < w.heap.size) a2 mb.length (ints mb) ∧ (a2 = none → mb.length = 0) ∧
      rows.length ≤ maxLen ∧ (∀ r ∈ rows, r.length = 2) ∧ Vw w 2 (fun k => k < w.heap.size) a3 rows.length (ints rows.flatten) := by
  obtain ⟨v0, v1, v2, v3, v4, v5, v6, v7, v8, n, y0, y1, y2, y3, y4, hcs, g0, g1, g2, g3, g4⟩ := open_five Try.underlying69 ⟨by kernel_rfl, by kernel_rfl, by kernel_rfl, by kernel_rfl, by kernel_rfl, by kernel_rfl, by kernel_rfl, by kernel_rfl, by kernel_rfl, by kernel_rfl, by kernel_rfl⟩ h
  obtain ⟨ao, aa, co, ac, qs, al, wd, lk, hi, k1, k2, k3, k4, k5⟩ := open_image (fa := #[]) Try.underlying25 Try.underlying22 Try.underlying59 Try.underlying57 (by kernel_rfl) (by kernel_rfl) (by kernel_rfl) (by kernel_rfl) (by kernel_rfl) Try.underlying23 Try.underlying104 (by kernel_rfl) (by kernel_rfl) Try.underlying3 Try.underlying3 Try.underlying4 Try.underlying3 Try.underlying3
    ⟨by kernel_rfl, by kernel_rfl, by kernel_rfl, by kernel_rfl, by kernel_rfl, by kernel_rfl, by kernel_rfl, by kernel_rfl, by kernel_rfl⟩ g0
  obtain ⟨a1, c1, ma, h1, m1, m2, _, m4, m5⟩ := open_nums Try.underlying26 Try.underlying2 (by kernel_rfl) g1
  obtain ⟨a2, c2, mb, h2, n1, n2, _, n4, n5⟩ := open_nums Try.underlying26 Try.underlying2 (by kernel_rfl) g2
  obtain ⟨room, window, h3⟩ := open_size Try.underlying35 Try.underlying3 Try.underlying3 ⟨by kernel_rfl, by kernel_rfl, by kernel_rfl, by kernel_rfl, by kernel_rfl⟩ g3
  obtain ⟨a3, c3, rows, h4, r1, r2, r3, r4, _⟩ := open_rows Try.underlying27 Try.underlying41 (by kernel_rfl) (by kernel_rfl) (by kernel_rfl) (by decide) g4
  simp at hi h1 h2 h3 h4
  obtain ⟨rfl, rfl, rfl, rfl⟩ := hi
  obtain ⟨rfl, rfl⟩ := h3
  subst h1 h2 h4
  refine ⟨ao, aa, a1, a2, a3, co, ac, c1, c2, c3, qs, al, wd, lk, room, window, ma, mb, rows, ?_, k1, k2, k3, k4, k5, by omega, m4, m5, by omega, n4, n5, by omega, fun r hr => (r3 r hr).1, r4⟩
  apply Array.toList_inj.1
  exact hcs
end Go.Proofs.Ytbfeopakmjcapaa.Seq
