/-
  What the listed variables hold, for the walks: the tables of calc, of strconv, and its two errors; and a start that has them so.
-/
import Derived.Test.YtonjhjkhmjfngaaDoorRows
import Derived.Test.YtonjhjkhmjfngaaDoorMem
import Derived.ProofKit
import Derived.LaidMore
import Derived.OpenShut
import Derived.Stop.Joined
import Derived.Stop.LaidErr
import Derived.Lib.LaidTab
import Derived.Lib.ItoaNum
namespace Go.Proofs.YtonjhjkhmjfngaaDoor
open Go.RowKit Go.ChangeShapes

noncomputable def laidAll : List (String × DataW Unit) := Rows.calcEvalsRow.laid

theorem door_met (os : Os) (args : Array Value) : laidMetH Tryd.prog laidAll ((World.doorLaid Tryd.prog 4000 os).forCall (fun _ _ => 0) ⟨#[], args, []⟩).memory :=
  laidMetH_of_parts3 (fuel := 8) (laidMet_of_run' 8 (by kernel_rfl) (by kernel_rfl)) (by kernel_rfl) (by kernel_rfl)

def signBytes : List (List UInt8) := [[43], [45], [42], [47], [37], [38], [124], [94], [60, 60], [62, 62], [61, 61], [33, 61], [60], [60, 61], [62], [62, 61], [], [38, 38], [124, 124]]
def rankInts : List Int := [9, 9, 10, 10, 10, 5, 3, 4, 8, 8, 6, 6, 7, 7, 7, 7, 0, 2, 1]

theorem gSigns : Tryd.prog.globalNamed "paling/calc.signs" = some 0 := by kernel_rfl
theorem gRanks : Tryd.prog.globalNamed "paling/calc.ranks" = some 1 := by kernel_rfl
theorem gSyn : Tryd.prog.globalNamed "strconv.ErrSyntax" = some 2 := by kernel_rfl
theorem gRng : Tryd.prog.globalNamed "strconv.ErrRange" = some 3 := by kernel_rfl
theorem gP10 : Tryd.prog.globalNamed "internal/strconv.uint64pow10" = some 4 := by kernel_rfl
theorem tSigns : (Tryd.prog.globals[0]?).map (·.type) = some 43 := by kernel_rfl
theorem tRanks : (Tryd.prog.globals[1]?).map (·.type) = some 46 := by kernel_rfl
theorem tSyn : (Tryd.prog.globals[2]?).map (·.type) = some 49 := by kernel_rfl
theorem tRng : (Tryd.prog.globals[3]?).map (·.type) = some 49 := by kernel_rfl
theorem tP10 : (Tryd.prog.globals[4]?).map (·.type) = some 72 := by kernel_rfl

/-- An array of strings that reads as a table holds it, cell for cell. -/
theorem cells_of_strs {H : Type} {enc : TypeId × Value → H} {P : Program} {w : World} {base : Nat} {sp : Nat → Bool} {held : Bool} {fuel : Nat} {t e : TypeId} {n : Nat} {cs : List Value} {zs : List (List UInt8)} {p : List MemPlace}
    (ht : P.underlying t = some (.array n e)) (he : P.underlying e = some .string) (hce : P.cellsOf e = 1) (hct : P.cellsOf t = n)
    (h : DataW.trod enc P w base sp held fuel t cs = some (.agg (zs.map fun z => .lit (.string z)), p)) : cs = zs.map fun z => Value.string ⟨z.toArray⟩ := by
  obtain ⟨xs, m, _, hx, hlen, hxl, hel⟩ := DataW.trod_array ht h
  have hxs : xs.map (·.1) = zs.map fun z => (DataW.lit (.string z) : DataW H) := by
    have := congrArg Prod.fst hx
    simpa using this.symm
  have hzl : zs.length = n := by
    have := congrArg List.length hxs
    simp at this
    omega
  rw [hct] at hlen
  apply List.ext_getElem?
  intro i
  by_cases hi : i < n
  · have hf := hel i hi
    rw [hce, Nat.mul_one] at hf
    have hb : xs[i]? = some xs[i] := by simp [hxl, hi]
    rw [hb] at hf
    obtain ⟨s, e1, e2, _⟩ := DataW.trod_string he hf
    have h1 : cs[i]? = some (.string s) := by
      have := congrArg (·[0]?) e1
      simpa [List.getElem?_take, List.getElem?_drop] using this
    have h2 : (xs.map (·.1))[i]? = some xs[i].1 := by simp [hb]
    rw [hxs, e2] at h2
    simp only [List.getElem?_map, Option.map_eq_some_iff, DataW.lit.injEq, Lit.string.injEq] at h2
    obtain ⟨z', hz', hzz⟩ := h2
    rw [h1]
    simp [hz', hzz]
  · rw [List.getElem?_eq_none (by omega), List.getElem?_eq_none (by simp; omega)]

/-- What the walks ask of the world. -/
structure Tabs (w : World) : Prop where
  signs : ∀ i, i < 19 → w.cell? ⟨0, i, none⟩ = some (.string ⟨(signBytes.getD i []).toArray⟩)
  ranks : ∀ i, i < 19 → w.cell? ⟨1, i, none⟩ = some (.int .i64 (rankInts.getD i 0))
  syn : ∃ tp p, w.var? Tryd.prog "strconv.ErrSyntax" = some #[.iface tp p]
  rng : ∃ tp p, w.var? Tryd.prog "strconv.ErrRange" = some #[.iface tp p]
  p10 : Lib.TabIs Tryd.prog w "internal/strconv.uint64pow10" .u64 Lib.pow10Tab
  big : 5 ≤ w.heap.size

theorem signs_of_head {W : World} {rest : List (String × DataW Unit)} (h : laidMet Tryd.prog (("paling/calc.signs", .agg (signBytes.map fun z => .lit (.string z))) :: rest) W) :
    ∀ i, i < 19 → W.cell? ⟨0, i, none⟩ = some (.string ⟨(signBytes.getD i []).toArray⟩) := by
  obtain ⟨ps, ⟨g', t', cs, fuel, p, q, hg', ht', hvar, hd, _, _⟩, _⟩ := h
  obtain rfl := Option.some.inj (gSigns.symm.trans hg')
  obtain rfl := Option.some.inj (tSigns.symm.trans ht')
  have hc := cells_of_strs Tryd.underlying43 Tryd.underlying9 (by kernel_rfl) (by kernel_rfl) hd
  intro i hi
  have := World.var?_cell gSigns hvar i
  rw [this, ← Array.getElem?_toList, hc, List.getElem?_map]
  have hl : i < signBytes.length := hi
  simp [hl]

theorem tabs_of_laid {W : World} (h : laidMetH Tryd.prog laidAll W) : Tabs W := by
  rw [MakeChecks.laidMetH_plain _ _ _ (by kernel_rfl)] at h
  have h0 : laidMet Tryd.prog (("math/bits.deBruijn32tab", Rows.laid_math_bits_deBruijn32tab) :: ("math/bits.deBruijn64tab", Rows.laid_math_bits_deBruijn64tab) :: ("internal/strconv.uint64pow10", Lib.tabData .u64 Lib.pow10Tab) ::
    ("strconv.ErrRange", .iface "*errors.errorString" (.ptr (.agg [.lit (.string [118, 97, 108, 117, 101, 32, 111, 117, 116, 32, 111, 102, 32, 114, 97, 110, 103, 101])]))) ::
    ("strconv.ErrSyntax", .iface "*errors.errorString" (.ptr (.agg [.lit (.string [105, 110, 118, 97, 108, 105, 100, 32, 115, 121, 110, 116, 97, 120])]))) ::
    ("paling/calc.signs", .agg (signBytes.map fun z => .lit (.string z))) :: ("paling/calc.ranks", Lib.tabData .i64 rankInts) :: []) W := h
  have hp := h0.tail.tail
  have hr := hp.tail
  have hs := hr.tail
  have hg := hs.tail
  have hk := hg.tail
  have hrow : ∀ u, Tryd.prog.typeName? 3 u = some "*errors.errorString" → u = 77 := by
    intro u hu
    have star : "*" ++ "errors.errorString" = "*errors.errorString" := by decide
    exact typeName_ptr_named (nm := "errors.errorString") (by rw [star]; kernel_rfl) (by kernel_rfl) (by decide) u (by rw [star]; exact hu)
  obtain ⟨a1, s1, hv1, -, -, -⟩ := laid_sentinel hr gRng tRng Tryd.underlying49 hrow Tryd.underlying77 Tryd.underlying79 rfl rfl Tryd.underlying9 (by kernel_rfl) (by kernel_rfl)
  obtain ⟨a2, s2, hv2, -, -, -⟩ := laid_sentinel hs gSyn tSyn Tryd.underlying49 hrow Tryd.underlying77 Tryd.underlying79 rfl rfl Tryd.underlying9 (by kernel_rfl) (by kernel_rfl)
  have hrk := Lib.tabIs_of_head gRanks tRanks Tryd.underlying46 Tryd.underlying3 (by kernel_rfl) (by kernel_rfl) hk
  have hpt := Lib.tabIs_of_head gP10 tP10 Tryd.underlying72 Tryd.underlying39 (by kernel_rfl) (by kernel_rfl) hp
  exact ⟨signs_of_head hg, fun i hi => hrk.cell gRanks i hi, ⟨_, _, hv2⟩, ⟨_, _, hv1⟩, hpt, World.block_lt_of_cell? _ _ (hpt.cell gP10 0 (by decide))⟩

/-- The tables stand where only new blocks come. -/
theorem Tabs.fr {w w1 : World} (h : Tabs w) (hf : Fr (fun _ => False) w w1) : Tabs w1 := by
  have hb := h.big
  have hv : ∀ (n : String) (g : Nat), g < 5 → Tryd.prog.globalNamed n = some g → w1.var? Tryd.prog n = w.var? Tryd.prog n := by
    intro n g hg hn
    have := hf.block g (by omega) (fun h => h)
    simp [World.var?, hn, this]
  refine ⟨fun i hi => hf.cell (h.signs i hi) (fun h => h), fun i hi => hf.cell (h.ranks i hi) (fun h => h), ?_, ?_, ?_, by have := hf.size; omega⟩
  · rw [hv _ 2 (by omega) gSyn]; exact h.syn
  · rw [hv _ 3 (by omega) gRng]; exact h.rng
  · unfold Lib.TabIs; rw [hv _ 4 (by omega) gP10]; exact h.p10

def inI (n : Int) : Prop := -9223372036854775808 ≤ n ∧ n ≤ 9223372036854775807
theorem inI_of_wf {n : Int} (h : (Lit.int .i64 n).wf = true) : inI n := by
  have e1 : IntKind.i64.min = -9223372036854775808 := rfl
  have e2 : IntKind.i64.max = 9223372036854775807 := rfl
  simp [Lit.wf, e1, e2] at h
  exact h
end Go.Proofs.YtonjhjkhmjfngaaDoor
