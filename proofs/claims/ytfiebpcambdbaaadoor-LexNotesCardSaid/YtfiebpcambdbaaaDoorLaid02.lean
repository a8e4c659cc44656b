/-
  What the listed variables hold, for the walks of chapter 02: the tables of strings and strconv, and strconv's two errors; and a start that has them so.
-/
import Derived.Test.YtfiebpcambdbaaaDoorRows
import Derived.Test.YtfiebpcambdbaaaDoorMem
import Derived.ProofKit
import Derived.LaidMore
import Derived.Lay
import Derived.OpenShut
import Derived.Stop.Joined
import Derived.Stop.LaidErr
import Derived.Lib.LaidTab
import Derived.Lib.ItoaNum
set_option linter.unusedVariables false
set_option linter.unusedSimpArgs false
set_option maxHeartbeats 4000000
set_option maxRecDepth 8000
namespace Go.Proofs.YtfiebpcambdbaaaDoor
open Go.RowKit Go.ChangeShapes

noncomputable def laidAll : List (String × DataW Unit) := Rows.lexWordsRow.laid

theorem start_met (os : Os) (args : Array Value) : laidMetH Tryd.prog laidAll ((World.laidAll Tryd.prog os laidAll).forCall (fun _ _ => 0) ⟨#[], args, []⟩).memory := by
  rw [MakeChecks.laidMetH_plain _ _ _ (by kernel_rfl)]
  exact laidMet_laidAll _ (by kernel_rfl) (by kernel_rfl)
theorem start_shaped (os : Os) : (World.laidAll Tryd.prog os laidAll).Shaped Tryd.prog := World.shaped_of_ZipB (by kernel_rfl) (by kernel_rfl)

/-- Which bytes are blank, by the library's table. -/
def spaceInts : List Int := (List.range 256).map fun k => if k = 9 ∨ k = 10 ∨ k = 11 ∨ k = 12 ∨ k = 13 ∨ k = 32 then 1 else 0

theorem gSpc : Tryd.prog.globalNamed "strings.asciiSpace" = some 1 := by kernel_rfl
theorem gSyn : Tryd.prog.globalNamed "strconv.ErrSyntax" = some 5 := by kernel_rfl
theorem gRng : Tryd.prog.globalNamed "strconv.ErrRange" = some 6 := by kernel_rfl
theorem gP10 : Tryd.prog.globalNamed "internal/strconv.uint64pow10" = some 7 := by kernel_rfl
theorem tSpc : (Tryd.prog.globals[1]?).map (·.type) = some 79 := by kernel_rfl
theorem tSyn : (Tryd.prog.globals[5]?).map (·.type) = some 68 := by kernel_rfl
theorem tRng : (Tryd.prog.globals[6]?).map (·.type) = some 68 := by kernel_rfl
theorem tP10 : (Tryd.prog.globals[7]?).map (·.type) = some 122 := by kernel_rfl

theorem spc_eq : (Rows.laid_strings_asciiSpace : DataW Unit) = Lib.tabData .u8 spaceInts := by kernel_rfl

/-- What the walks ask of the world. -/
structure Tabs (w : World) : Prop where
  spc : ∀ i, i < 256 → w.cell? ⟨1, i, none⟩ = some (.int .u8 (spaceInts.getD i 0))
  syn : ∃ tp p, w.var? Tryd.prog "strconv.ErrSyntax" = some #[.iface tp p]
  rng : ∃ tp p, w.var? Tryd.prog "strconv.ErrRange" = some #[.iface tp p]
  p10 : Lib.TabIs Tryd.prog w "internal/strconv.uint64pow10" .u64 Lib.pow10Tab
  big : 8 ≤ w.heap.size

set_option maxRecDepth 1000000 in
theorem tabs_of_laid {W : World} (h : laidMetH Tryd.prog laidAll W) : Tabs W := by
  rw [MakeChecks.laidMetH_plain _ _ _ (by kernel_rfl)] at h
  have h0 : laidMet Tryd.prog (("math/bits.deBruijn32tab", Rows.laid_math_bits_deBruijn32tab) :: ("math/bits.deBruijn64tab", Rows.laid_math_bits_deBruijn64tab) :: ("internal/strconv.uint64pow10", Lib.tabData .u64 Lib.pow10Tab) ::
    ("unicode/utf8.acceptRanges", Rows.laid_unicode_utf8_acceptRanges) ::
    ("strconv.ErrRange", .iface "*errors.errorString" (.ptr (.agg [.lit (.string [118, 97, 108, 117, 101, 32, 111, 117, 116, 32, 111, 102, 32, 114, 97, 110, 103, 101])]))) ::
    ("strconv.ErrSyntax", .iface "*errors.errorString" (.ptr (.agg [.lit (.string [105, 110, 118, 97, 108, 105, 100, 32, 115, 121, 110, 116, 97, 120])]))) ::
    ("unicode.White_Space", Rows.laid_unicode_White_Space) :: ("strings.asciiSpace", Rows.laid_strings_asciiSpace) :: ("unicode/utf8.first", Rows.laid_unicode_utf8_first) :: []) W := h
  rw [spc_eq] at h0
  have hp := h0.tail.tail
  have hr := hp.tail.tail
  have hs := hr.tail
  have hg := hs.tail.tail
  have hrow : ∀ u, Tryd.prog.typeName? 3 u = some "*errors.errorString" → u = 118 := by
    intro u hu
    have star : "*" ++ "errors.errorString" = "*errors.errorString" := by decide
    exact typeName_ptr_named (nm := "errors.errorString") (by rw [star]; kernel_rfl) (by kernel_rfl) (by decide) u (by rw [star]; exact hu)
  obtain ⟨a1, s1, hv1, -, -, -⟩ := laid_sentinel hr gRng tRng Tryd.underlying68 hrow Tryd.underlying118 Tryd.underlying120 rfl rfl Tryd.underlying9 (by kernel_rfl) (by kernel_rfl)
  obtain ⟨a2, s2, hv2, -, -, -⟩ := laid_sentinel hs gSyn tSyn Tryd.underlying68 hrow Tryd.underlying118 Tryd.underlying120 rfl rfl Tryd.underlying9 (by kernel_rfl) (by kernel_rfl)
  have hsp := Lib.tabIs_of_head gSpc tSpc Tryd.underlying79 Tryd.underlying5 (by kernel_rfl) (by kernel_rfl) hg
  have hpt := Lib.tabIs_of_head gP10 tP10 Tryd.underlying122 Tryd.underlying66 (by kernel_rfl) (by kernel_rfl) hp
  exact ⟨fun i hi => hsp.cell gSpc i hi, ⟨_, _, hv2⟩, ⟨_, _, hv1⟩, hpt, World.block_lt_of_cell? _ _ (hpt.cell gP10 0 (by decide))⟩

/-- The tables stand where only new blocks come. -/
theorem Tabs.fr {w w1 : World} (h : Tabs w) (hf : Fr (fun _ => False) w w1) : Tabs w1 := by
  have hb := h.big
  have hv : ∀ (n : String) (g : Nat), g < 8 → Tryd.prog.globalNamed n = some g → w1.var? Tryd.prog n = w.var? Tryd.prog n := by
    intro n g hg hn
    have := hf.block g (by omega) (fun h => h)
    simp [World.var?, hn, this]
  refine ⟨fun i hi => hf.cell (h.spc i hi) (fun h => h), ?_, ?_, ?_, by have := hf.size; omega⟩
  · rw [hv _ 5 (by omega) gSyn]; exact h.syn
  · rw [hv _ 6 (by omega) gRng]; exact h.rng
  · unfold Lib.TabIs; rw [hv _ 7 (by omega) gP10]; exact h.p10

def inI (n : Int) : Prop := -9223372036854775808 ≤ n ∧ n ≤ 9223372036854775807
theorem inI_of_wf {n : Int} (h : (Lit.int .i64 n).wf = true) : inI n := by
  have e1 : IntKind.i64.min = -9223372036854775808 := rfl
  have e2 : IntKind.i64.max = 9223372036854775807 := rfl
  simp [Lit.wf, e1, e2] at h
  exact h
end Go.Proofs.YtfiebpcambdbaaaDoor
