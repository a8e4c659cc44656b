/-
  NARROWER THAN 'FOR EVERY INPUT', by the rows' own cells (each row's printed sentence says how): CalcEvals: laid · CalcSigns: laid · CalcNumbers: laid · CalcRest: laid · CalcSame: laid · CalcShifts: laid · CalcOrder: laid.
  DERIVED. THE GIVEN ROWS OF THIS SEAT. 7 by the template 'for every input the law returns true; each argument reads behind the call as it read before'; 0 by the template 'total and deterministic' (their statements: YtonjhjkhmjfngaaDoorTotals.lean).
  GIVEN WITH THE SEED: the statements are not yours to turn. If you find one false, say at which input.
  Laid BY PROGRAM, IN A SANDBOX (cutbox-rows.mjs): the forced cells as the released guide's own fill.sh prints them over the translation 4dcba262d58dceae… (all of the seat's roots in one cut). By AI agents, Wed Nov 11 2026. No macro, syntax, notation, axiom, sorry.
-/
import Derived.Test.YtonjhjkhmjfngaaDoorChecked
import GoSem.Claim
import GoSem.ClaimJoined
import GoSem.ClaimMapViews
import Derived.JoinedTies
import Derived.KernelRfl
namespace Go.Proofs.YtonjhjkhmjfngaaDoor
/- THE CELL 'sum', in the pinned program and in every row, IS THE sha256 OF THE DUMP (.gsa) THAT YtonjhjkhmjfngaaDoorProg.lean LOADS. Nothing in Lean hashes anything: it is a label: what it is worth is what the hold of that sum in a sandbox is worth. -/
noncomputable def Tryd.pinned : Pinned := { name := "ytonjhjkhmjfngaadoor", sum := "4dcba262d58dceae33efd495d908bafa241f77c7bcf50fe6aed37aca231b9871", checked := Tryd.checked }
namespace Rows
def none {H : Type} : Left H := { results := [], args := [] }

/- WHAT THE LISTED PACKAGE-LEVEL VARIABLES READ AS WHEN THE CALL BEGINS. Each datum BY PROGRAM (the guide's laid-datum.mjs) off the statement by which the dump's own 'gosem.cut.vars' lays the variable. In a bare row this is a premise. The card (YtonjhjkhmjfngaaDoorCards.lean) ties it to the program's text. -/
def laid_math_bits_deBruijn32tab {H : Type} : DataW H := .agg [.lit (.int .u8 0), .lit (.int .u8 1), .lit (.int .u8 28), .lit (.int .u8 2), .lit (.int .u8 29), .lit (.int .u8 14), .lit (.int .u8 24), .lit (.int .u8 3), .lit (.int .u8 30), .lit (.int .u8 22), .lit (.int .u8 20), .lit (.int .u8 15), .lit (.int .u8 25), .lit (.int .u8 17), .lit (.int .u8 4), .lit (.int .u8 8), .lit (.int .u8 31), .lit (.int .u8 27), .lit (.int .u8 13), .lit (.int .u8 23), .lit (.int .u8 21), .lit (.int .u8 19), .lit (.int .u8 16), .lit (.int .u8 7), .lit (.int .u8 26), .lit (.int .u8 12), .lit (.int .u8 18), .lit (.int .u8 6), .lit (.int .u8 11), .lit (.int .u8 5), .lit (.int .u8 10), .lit (.int .u8 9)]
def laid_math_bits_deBruijn64tab {H : Type} : DataW H := .agg [.lit (.int .u8 0), .lit (.int .u8 1), .lit (.int .u8 56), .lit (.int .u8 2), .lit (.int .u8 57), .lit (.int .u8 49), .lit (.int .u8 28), .lit (.int .u8 3), .lit (.int .u8 61), .lit (.int .u8 58), .lit (.int .u8 42), .lit (.int .u8 50), .lit (.int .u8 38), .lit (.int .u8 29), .lit (.int .u8 17), .lit (.int .u8 4), .lit (.int .u8 62), .lit (.int .u8 47), .lit (.int .u8 59), .lit (.int .u8 36), .lit (.int .u8 45), .lit (.int .u8 43), .lit (.int .u8 51), .lit (.int .u8 22), .lit (.int .u8 53), .lit (.int .u8 39), .lit (.int .u8 33), .lit (.int .u8 30), .lit (.int .u8 24), .lit (.int .u8 18), .lit (.int .u8 12), .lit (.int .u8 5), .lit (.int .u8 63), .lit (.int .u8 55), .lit (.int .u8 48), .lit (.int .u8 27), .lit (.int .u8 60), .lit (.int .u8 41), .lit (.int .u8 37), .lit (.int .u8 16), .lit (.int .u8 46), .lit (.int .u8 35), .lit (.int .u8 44), .lit (.int .u8 21), .lit (.int .u8 52), .lit (.int .u8 32), .lit (.int .u8 23), .lit (.int .u8 11), .lit (.int .u8 54), .lit (.int .u8 26), .lit (.int .u8 40), .lit (.int .u8 15), .lit (.int .u8 34), .lit (.int .u8 20), .lit (.int .u8 31), .lit (.int .u8 10), .lit (.int .u8 25), .lit (.int .u8 14), .lit (.int .u8 19), .lit (.int .u8 9), .lit (.int .u8 13), .lit (.int .u8 8), .lit (.int .u8 7), .lit (.int .u8 6)]
def laid_internal_strconv_uint64pow10 {H : Type} : DataW H := .agg [.lit (.int .u64 1), .lit (.int .u64 10), .lit (.int .u64 100), .lit (.int .u64 1000), .lit (.int .u64 10000), .lit (.int .u64 100000), .lit (.int .u64 1000000), .lit (.int .u64 10000000), .lit (.int .u64 100000000), .lit (.int .u64 1000000000), .lit (.int .u64 10000000000), .lit (.int .u64 100000000000), .lit (.int .u64 1000000000000), .lit (.int .u64 10000000000000), .lit (.int .u64 100000000000000), .lit (.int .u64 1000000000000000), .lit (.int .u64 10000000000000000), .lit (.int .u64 100000000000000000), .lit (.int .u64 1000000000000000000), .lit (.int .u64 10000000000000000000)]
def laid_strconv_ErrRange {H : Type} : DataW H := .iface "*errors.errorString" (.ptr (.agg [.lit (.string [118, 97, 108, 117, 101, 32, 111, 117, 116, 32, 111, 102, 32, 114, 97, 110, 103, 101])]))
def laid_strconv_ErrSyntax {H : Type} : DataW H := .iface "*errors.errorString" (.ptr (.agg [.lit (.string [105, 110, 118, 97, 108, 105, 100, 32, 115, 121, 110, 116, 97, 120])]))
def laid_paling_calc_signs {H : Type} : DataW H := .agg [.lit (.string [43]), .lit (.string [45]), .lit (.string [42]), .lit (.string [47]), .lit (.string [37]), .lit (.string [38]), .lit (.string [124]), .lit (.string [94]), .lit (.string [60, 60]), .lit (.string [62, 62]), .lit (.string [61, 61]), .lit (.string [33, 61]), .lit (.string [60]), .lit (.string [60, 61]), .lit (.string [62]), .lit (.string [62, 61]), .lit (.string []), .lit (.string [38, 38]), .lit (.string [124, 124])]
def laid_paling_calc_ranks {H : Type} : DataW H := .agg [.lit (.int .i64 9), .lit (.int .i64 9), .lit (.int .i64 10), .lit (.int .i64 10), .lit (.int .i64 10), .lit (.int .i64 5), .lit (.int .i64 3), .lit (.int .i64 4), .lit (.int .i64 8), .lit (.int .i64 8), .lit (.int .i64 6), .lit (.int .i64 6), .lit (.int .i64 7), .lit (.int .i64 7), .lit (.int .i64 7), .lit (.int .i64 7), .lit (.int .i64 0), .lit (.int .i64 2), .lit (.int .i64 1)]

/-- 'palinglaw01.CalcEvals': WHATEVER THE INPUT: true; the input reads as it did. -/
def calcEvalsSpec : ChangeSpec := { name := "calcEvals", fn := fun _ => fun
  | [d1, d2, d3] => { results := [.lit (.bool true)], args := [d1, d2, d3] }
  | _ => none }
def calcEvalsRow : OpenClaim := { program := "ytonjhjkhmjfngaadoor", sum := "4dcba262d58dceae33efd495d908bafa241f77c7bcf50fe6aed37aca231b9871", func := "paling/palinglaw01.CalcEvals", spec := "calcEvals", unfollowed := true, recurses := true, named := ["strconv.ErrSyntax", "strconv.ErrRange", "internal/strconv.uint64pow10", "math/bits.deBruijn32tab", "math/bits.deBruijn64tab", "paling/calc.signs", "paling/calc.ranks"], apart := false, laid := [("math/bits.deBruijn32tab", laid_math_bits_deBruijn32tab), ("math/bits.deBruijn64tab", laid_math_bits_deBruijn64tab), ("internal/strconv.uint64pow10", laid_internal_strconv_uint64pow10), ("strconv.ErrRange", laid_strconv_ErrRange), ("strconv.ErrSyntax", laid_strconv_ErrSyntax), ("paling/calc.signs", laid_paling_calc_signs), ("paling/calc.ranks", laid_paling_calc_ranks)] }
def CalcEvalsSaid : Prop := calcEvalsRow.holds Tryd.pinned (OpenSpec.ofChange calcEvalsSpec)

/-- ITS FALSE NEIGHBOUR: 'it returns false'. Refute it at one input. -/
def calcEvalsWrong : ChangeSpec := { name := "calcEvals", fn := fun _ => fun
  | [d1, d2, d3] => { results := [.lit (.bool false)], args := [d1, d2, d3] }
  | _ => none }
def CalcEvalsWrongFalsely : Prop := calcEvalsRow.holds Tryd.pinned (OpenSpec.ofChange calcEvalsWrong)

/-- 'palinglaw01.CalcSigns': WHATEVER THE INPUT: true; the input reads as it did. -/
def calcSignsSpec : ChangeSpec := { name := "calcSigns", fn := fun _ => fun
  | [d1, d2] => { results := [.lit (.bool true)], args := [d1, d2] }
  | _ => none }
def calcSignsRow : OpenClaim := { program := "ytonjhjkhmjfngaadoor", sum := "4dcba262d58dceae33efd495d908bafa241f77c7bcf50fe6aed37aca231b9871", func := "paling/palinglaw01.CalcSigns", spec := "calcSigns", unfollowed := true, recurses := true, named := ["strconv.ErrSyntax", "strconv.ErrRange", "internal/strconv.uint64pow10", "math/bits.deBruijn32tab", "math/bits.deBruijn64tab", "paling/calc.signs", "paling/calc.ranks"], apart := false, laid := [("math/bits.deBruijn32tab", laid_math_bits_deBruijn32tab), ("math/bits.deBruijn64tab", laid_math_bits_deBruijn64tab), ("internal/strconv.uint64pow10", laid_internal_strconv_uint64pow10), ("strconv.ErrRange", laid_strconv_ErrRange), ("strconv.ErrSyntax", laid_strconv_ErrSyntax), ("paling/calc.signs", laid_paling_calc_signs), ("paling/calc.ranks", laid_paling_calc_ranks)] }
def CalcSignsSaid : Prop := calcSignsRow.holds Tryd.pinned (OpenSpec.ofChange calcSignsSpec)

/-- ITS FALSE NEIGHBOUR: 'it returns false'. Refute it at one input. -/
def calcSignsWrong : ChangeSpec := { name := "calcSigns", fn := fun _ => fun
  | [d1, d2] => { results := [.lit (.bool false)], args := [d1, d2] }
  | _ => none }
def CalcSignsWrongFalsely : Prop := calcSignsRow.holds Tryd.pinned (OpenSpec.ofChange calcSignsWrong)

/-- 'palinglaw01.CalcNumbers': WHATEVER THE INPUT: true; the input reads as it did. -/
def calcNumbersSpec : ChangeSpec := { name := "calcNumbers", fn := fun _ => fun
  | [d1, d2] => { results := [.lit (.bool true)], args := [d1, d2] }
  | _ => none }
def calcNumbersRow : OpenClaim := { program := "ytonjhjkhmjfngaadoor", sum := "4dcba262d58dceae33efd495d908bafa241f77c7bcf50fe6aed37aca231b9871", func := "paling/palinglaw01.CalcNumbers", spec := "calcNumbers", unfollowed := true, recurses := true, named := ["strconv.ErrSyntax", "strconv.ErrRange", "internal/strconv.uint64pow10", "math/bits.deBruijn32tab", "math/bits.deBruijn64tab", "paling/calc.signs", "paling/calc.ranks"], apart := false, laid := [("math/bits.deBruijn32tab", laid_math_bits_deBruijn32tab), ("math/bits.deBruijn64tab", laid_math_bits_deBruijn64tab), ("internal/strconv.uint64pow10", laid_internal_strconv_uint64pow10), ("strconv.ErrRange", laid_strconv_ErrRange), ("strconv.ErrSyntax", laid_strconv_ErrSyntax), ("paling/calc.signs", laid_paling_calc_signs), ("paling/calc.ranks", laid_paling_calc_ranks)] }
def CalcNumbersSaid : Prop := calcNumbersRow.holds Tryd.pinned (OpenSpec.ofChange calcNumbersSpec)

/-- ITS FALSE NEIGHBOUR: 'it returns false'. Refute it at one input. -/
def calcNumbersWrong : ChangeSpec := { name := "calcNumbers", fn := fun _ => fun
  | [d1, d2] => { results := [.lit (.bool false)], args := [d1, d2] }
  | _ => none }
def CalcNumbersWrongFalsely : Prop := calcNumbersRow.holds Tryd.pinned (OpenSpec.ofChange calcNumbersWrong)

/-- 'palinglaw01.CalcRest': WHATEVER THE INPUT: true; the input reads as it did. -/
def calcRestSpec : ChangeSpec := { name := "calcRest", fn := fun _ => fun
  | [d1, d2] => { results := [.lit (.bool true)], args := [d1, d2] }
  | _ => none }
def calcRestRow : OpenClaim := { program := "ytonjhjkhmjfngaadoor", sum := "4dcba262d58dceae33efd495d908bafa241f77c7bcf50fe6aed37aca231b9871", func := "paling/palinglaw01.CalcRest", spec := "calcRest", unfollowed := true, recurses := true, named := ["strconv.ErrSyntax", "strconv.ErrRange", "internal/strconv.uint64pow10", "math/bits.deBruijn32tab", "math/bits.deBruijn64tab", "paling/calc.signs", "paling/calc.ranks"], apart := false, laid := [("math/bits.deBruijn32tab", laid_math_bits_deBruijn32tab), ("math/bits.deBruijn64tab", laid_math_bits_deBruijn64tab), ("internal/strconv.uint64pow10", laid_internal_strconv_uint64pow10), ("strconv.ErrRange", laid_strconv_ErrRange), ("strconv.ErrSyntax", laid_strconv_ErrSyntax), ("paling/calc.signs", laid_paling_calc_signs), ("paling/calc.ranks", laid_paling_calc_ranks)] }
def CalcRestSaid : Prop := calcRestRow.holds Tryd.pinned (OpenSpec.ofChange calcRestSpec)

/-- ITS FALSE NEIGHBOUR: 'it returns false'. Refute it at one input. -/
def calcRestWrong : ChangeSpec := { name := "calcRest", fn := fun _ => fun
  | [d1, d2] => { results := [.lit (.bool false)], args := [d1, d2] }
  | _ => none }
def CalcRestWrongFalsely : Prop := calcRestRow.holds Tryd.pinned (OpenSpec.ofChange calcRestWrong)

/-- 'palinglaw01.CalcSame': WHATEVER THE INPUT: true; the input reads as it did. -/
def calcSameSpec : ChangeSpec := { name := "calcSame", fn := fun _ => fun
  | [d1, d2] => { results := [.lit (.bool true)], args := [d1, d2] }
  | _ => none }
def calcSameRow : OpenClaim := { program := "ytonjhjkhmjfngaadoor", sum := "4dcba262d58dceae33efd495d908bafa241f77c7bcf50fe6aed37aca231b9871", func := "paling/palinglaw01.CalcSame", spec := "calcSame", unfollowed := true, recurses := true, named := ["strconv.ErrSyntax", "strconv.ErrRange", "internal/strconv.uint64pow10", "math/bits.deBruijn32tab", "math/bits.deBruijn64tab", "paling/calc.signs", "paling/calc.ranks"], apart := false, laid := [("math/bits.deBruijn32tab", laid_math_bits_deBruijn32tab), ("math/bits.deBruijn64tab", laid_math_bits_deBruijn64tab), ("internal/strconv.uint64pow10", laid_internal_strconv_uint64pow10), ("strconv.ErrRange", laid_strconv_ErrRange), ("strconv.ErrSyntax", laid_strconv_ErrSyntax), ("paling/calc.signs", laid_paling_calc_signs), ("paling/calc.ranks", laid_paling_calc_ranks)] }
def CalcSameSaid : Prop := calcSameRow.holds Tryd.pinned (OpenSpec.ofChange calcSameSpec)

/-- ITS FALSE NEIGHBOUR: 'it returns false'. Refute it at one input. -/
def calcSameWrong : ChangeSpec := { name := "calcSame", fn := fun _ => fun
  | [d1, d2] => { results := [.lit (.bool false)], args := [d1, d2] }
  | _ => none }
def CalcSameWrongFalsely : Prop := calcSameRow.holds Tryd.pinned (OpenSpec.ofChange calcSameWrong)

/-- 'palinglaw01.CalcShifts': WHATEVER THE INPUT: true; the input reads as it did. -/
def calcShiftsSpec : ChangeSpec := { name := "calcShifts", fn := fun _ => fun
  | [d1, d2] => { results := [.lit (.bool true)], args := [d1, d2] }
  | _ => none }
def calcShiftsRow : OpenClaim := { program := "ytonjhjkhmjfngaadoor", sum := "4dcba262d58dceae33efd495d908bafa241f77c7bcf50fe6aed37aca231b9871", func := "paling/palinglaw01.CalcShifts", spec := "calcShifts", unfollowed := true, recurses := true, named := ["strconv.ErrSyntax", "strconv.ErrRange", "internal/strconv.uint64pow10", "math/bits.deBruijn32tab", "math/bits.deBruijn64tab", "paling/calc.signs", "paling/calc.ranks"], apart := false, laid := [("math/bits.deBruijn32tab", laid_math_bits_deBruijn32tab), ("math/bits.deBruijn64tab", laid_math_bits_deBruijn64tab), ("internal/strconv.uint64pow10", laid_internal_strconv_uint64pow10), ("strconv.ErrRange", laid_strconv_ErrRange), ("strconv.ErrSyntax", laid_strconv_ErrSyntax), ("paling/calc.signs", laid_paling_calc_signs), ("paling/calc.ranks", laid_paling_calc_ranks)] }
def CalcShiftsSaid : Prop := calcShiftsRow.holds Tryd.pinned (OpenSpec.ofChange calcShiftsSpec)

/-- ITS FALSE NEIGHBOUR: 'it returns false'. Refute it at one input. -/
def calcShiftsWrong : ChangeSpec := { name := "calcShifts", fn := fun _ => fun
  | [d1, d2] => { results := [.lit (.bool false)], args := [d1, d2] }
  | _ => none }
def CalcShiftsWrongFalsely : Prop := calcShiftsRow.holds Tryd.pinned (OpenSpec.ofChange calcShiftsWrong)

/-- 'palinglaw01.CalcOrder': WHATEVER THE INPUT: true; the input reads as it did. -/
def calcOrderSpec : ChangeSpec := { name := "calcOrder", fn := fun _ => fun
  | [d1, d2] => { results := [.lit (.bool true)], args := [d1, d2] }
  | _ => none }
def calcOrderRow : OpenClaim := { program := "ytonjhjkhmjfngaadoor", sum := "4dcba262d58dceae33efd495d908bafa241f77c7bcf50fe6aed37aca231b9871", func := "paling/palinglaw01.CalcOrder", spec := "calcOrder", unfollowed := true, recurses := true, named := ["strconv.ErrSyntax", "strconv.ErrRange", "internal/strconv.uint64pow10", "math/bits.deBruijn32tab", "math/bits.deBruijn64tab", "paling/calc.signs", "paling/calc.ranks"], apart := false, laid := [("math/bits.deBruijn32tab", laid_math_bits_deBruijn32tab), ("math/bits.deBruijn64tab", laid_math_bits_deBruijn64tab), ("internal/strconv.uint64pow10", laid_internal_strconv_uint64pow10), ("strconv.ErrRange", laid_strconv_ErrRange), ("strconv.ErrSyntax", laid_strconv_ErrSyntax), ("paling/calc.signs", laid_paling_calc_signs), ("paling/calc.ranks", laid_paling_calc_ranks)] }
def CalcOrderSaid : Prop := calcOrderRow.holds Tryd.pinned (OpenSpec.ofChange calcOrderSpec)

/-- ITS FALSE NEIGHBOUR: 'it returns false'. Refute it at one input. -/
def calcOrderWrong : ChangeSpec := { name := "calcOrder", fn := fun _ => fun
  | [d1, d2] => { results := [.lit (.bool false)], args := [d1, d2] }
  | _ => none }
def CalcOrderWrongFalsely : Prop := calcOrderRow.holds Tryd.pinned (OpenSpec.ofChange calcOrderWrong)

/- THE SECOND FORM. 'bulk': how many values and letters a reading holds, each counted each time it is reached (what is shared counts as often as it is met; a slice's spare places count too). A statement '..UptoSaid' is the law's where the arguments, and the package variables that the reading takes, are together of bulk at most 1048576: NARROWER than '..Said'. Prove '..Said' where nothing that the law and all that it calls make is longer than what came in: it says more and counts as full. Else prove '..UptoSaid'. A law counts once. -/
mutual
def uptoBulk {H : Type} : DataW H → Nat
  | .lit (.string bytes) => bytes.length + 1
  | .lit _ => 1
  | .nil => 1
  | .ptr d => uptoBulk d + 1
  | .slice elems spare => uptoBulkAll elems + uptoBulkAll spare + 1
  | .agg parts => uptoBulkAll parts + 1
  | .iface _ d => uptoBulk d + 1
  | .map entries => uptoBulkEntries entries + 1
  | .held _ => 1
def uptoBulkAll {H : Type} : List (DataW H) → Nat
  | [] => 0
  | d :: r => uptoBulk d + uptoBulkAll r
def uptoBulkEntries {H : Type} : List (Lit × DataW H) → Nat
  | [] => 0
  | x :: r => uptoBulkEntry x + uptoBulkEntries r
def uptoBulkEntry {H : Type} : Lit × DataW H → Nat
  | (.string bytes, d) => bytes.length + uptoBulk d + 1
  | (_, d) => uptoBulk d + 1
 end
def uptoSmall : (H : Type) → List (DataW H) → Bool := fun _ ds => decide (uptoBulkAll ds ≤ 1048576)
def OpenSpec.upto (s : _root_.Go.ChangeSpec) : _root_.Go.OpenSpec := { _root_.Go.OpenSpec.ofChange s with cond := some uptoSmall }

/-- 'palinglaw01.CalcEvals', WHERE WHAT IT READS IS OF BULK AT MOST 1048576: true; the input reads as it did. -/
def calcEvalsUptoRow : OpenClaim := { program := "ytonjhjkhmjfngaadoor", sum := "4dcba262d58dceae33efd495d908bafa241f77c7bcf50fe6aed37aca231b9871", func := "paling/palinglaw01.CalcEvals", spec := "calcEvals", unfollowed := true, recurses := true, named := ["strconv.ErrSyntax", "strconv.ErrRange", "internal/strconv.uint64pow10", "math/bits.deBruijn32tab", "math/bits.deBruijn64tab", "paling/calc.signs", "paling/calc.ranks"], apart := false, laid := [("math/bits.deBruijn32tab", laid_math_bits_deBruijn32tab), ("math/bits.deBruijn64tab", laid_math_bits_deBruijn64tab), ("internal/strconv.uint64pow10", laid_internal_strconv_uint64pow10), ("strconv.ErrRange", laid_strconv_ErrRange), ("strconv.ErrSyntax", laid_strconv_ErrSyntax), ("paling/calc.signs", laid_paling_calc_signs), ("paling/calc.ranks", laid_paling_calc_ranks)], narrowed := true }
def CalcEvalsUptoSaid : Prop := calcEvalsUptoRow.holds Tryd.pinned (OpenSpec.upto calcEvalsSpec)

/-- 'palinglaw01.CalcSigns', WHERE WHAT IT READS IS OF BULK AT MOST 1048576: true; the input reads as it did. -/
def calcSignsUptoRow : OpenClaim := { program := "ytonjhjkhmjfngaadoor", sum := "4dcba262d58dceae33efd495d908bafa241f77c7bcf50fe6aed37aca231b9871", func := "paling/palinglaw01.CalcSigns", spec := "calcSigns", unfollowed := true, recurses := true, named := ["strconv.ErrSyntax", "strconv.ErrRange", "internal/strconv.uint64pow10", "math/bits.deBruijn32tab", "math/bits.deBruijn64tab", "paling/calc.signs", "paling/calc.ranks"], apart := false, laid := [("math/bits.deBruijn32tab", laid_math_bits_deBruijn32tab), ("math/bits.deBruijn64tab", laid_math_bits_deBruijn64tab), ("internal/strconv.uint64pow10", laid_internal_strconv_uint64pow10), ("strconv.ErrRange", laid_strconv_ErrRange), ("strconv.ErrSyntax", laid_strconv_ErrSyntax), ("paling/calc.signs", laid_paling_calc_signs), ("paling/calc.ranks", laid_paling_calc_ranks)], narrowed := true }
def CalcSignsUptoSaid : Prop := calcSignsUptoRow.holds Tryd.pinned (OpenSpec.upto calcSignsSpec)

/-- 'palinglaw01.CalcNumbers', WHERE WHAT IT READS IS OF BULK AT MOST 1048576: true; the input reads as it did. -/
def calcNumbersUptoRow : OpenClaim := { program := "ytonjhjkhmjfngaadoor", sum := "4dcba262d58dceae33efd495d908bafa241f77c7bcf50fe6aed37aca231b9871", func := "paling/palinglaw01.CalcNumbers", spec := "calcNumbers", unfollowed := true, recurses := true, named := ["strconv.ErrSyntax", "strconv.ErrRange", "internal/strconv.uint64pow10", "math/bits.deBruijn32tab", "math/bits.deBruijn64tab", "paling/calc.signs", "paling/calc.ranks"], apart := false, laid := [("math/bits.deBruijn32tab", laid_math_bits_deBruijn32tab), ("math/bits.deBruijn64tab", laid_math_bits_deBruijn64tab), ("internal/strconv.uint64pow10", laid_internal_strconv_uint64pow10), ("strconv.ErrRange", laid_strconv_ErrRange), ("strconv.ErrSyntax", laid_strconv_ErrSyntax), ("paling/calc.signs", laid_paling_calc_signs), ("paling/calc.ranks", laid_paling_calc_ranks)], narrowed := true }
def CalcNumbersUptoSaid : Prop := calcNumbersUptoRow.holds Tryd.pinned (OpenSpec.upto calcNumbersSpec)

/-- 'palinglaw01.CalcRest', WHERE WHAT IT READS IS OF BULK AT MOST 1048576: true; the input reads as it did. -/
def calcRestUptoRow : OpenClaim := { program := "ytonjhjkhmjfngaadoor", sum := "4dcba262d58dceae33efd495d908bafa241f77c7bcf50fe6aed37aca231b9871", func := "paling/palinglaw01.CalcRest", spec := "calcRest", unfollowed := true, recurses := true, named := ["strconv.ErrSyntax", "strconv.ErrRange", "internal/strconv.uint64pow10", "math/bits.deBruijn32tab", "math/bits.deBruijn64tab", "paling/calc.signs", "paling/calc.ranks"], apart := false, laid := [("math/bits.deBruijn32tab", laid_math_bits_deBruijn32tab), ("math/bits.deBruijn64tab", laid_math_bits_deBruijn64tab), ("internal/strconv.uint64pow10", laid_internal_strconv_uint64pow10), ("strconv.ErrRange", laid_strconv_ErrRange), ("strconv.ErrSyntax", laid_strconv_ErrSyntax), ("paling/calc.signs", laid_paling_calc_signs), ("paling/calc.ranks", laid_paling_calc_ranks)], narrowed := true }
def CalcRestUptoSaid : Prop := calcRestUptoRow.holds Tryd.pinned (OpenSpec.upto calcRestSpec)

/-- 'palinglaw01.CalcSame', WHERE WHAT IT READS IS OF BULK AT MOST 1048576: true; the input reads as it did. -/
def calcSameUptoRow : OpenClaim := { program := "ytonjhjkhmjfngaadoor", sum := "4dcba262d58dceae33efd495d908bafa241f77c7bcf50fe6aed37aca231b9871", func := "paling/palinglaw01.CalcSame", spec := "calcSame", unfollowed := true, recurses := true, named := ["strconv.ErrSyntax", "strconv.ErrRange", "internal/strconv.uint64pow10", "math/bits.deBruijn32tab", "math/bits.deBruijn64tab", "paling/calc.signs", "paling/calc.ranks"], apart := false, laid := [("math/bits.deBruijn32tab", laid_math_bits_deBruijn32tab), ("math/bits.deBruijn64tab", laid_math_bits_deBruijn64tab), ("internal/strconv.uint64pow10", laid_internal_strconv_uint64pow10), ("strconv.ErrRange", laid_strconv_ErrRange), ("strconv.ErrSyntax", laid_strconv_ErrSyntax), ("paling/calc.signs", laid_paling_calc_signs), ("paling/calc.ranks", laid_paling_calc_ranks)], narrowed := true }
def CalcSameUptoSaid : Prop := calcSameUptoRow.holds Tryd.pinned (OpenSpec.upto calcSameSpec)

/-- 'palinglaw01.CalcShifts', WHERE WHAT IT READS IS OF BULK AT MOST 1048576: true; the input reads as it did. -/
def calcShiftsUptoRow : OpenClaim := { program := "ytonjhjkhmjfngaadoor", sum := "4dcba262d58dceae33efd495d908bafa241f77c7bcf50fe6aed37aca231b9871", func := "paling/palinglaw01.CalcShifts", spec := "calcShifts", unfollowed := true, recurses := true, named := ["strconv.ErrSyntax", "strconv.ErrRange", "internal/strconv.uint64pow10", "math/bits.deBruijn32tab", "math/bits.deBruijn64tab", "paling/calc.signs", "paling/calc.ranks"], apart := false, laid := [("math/bits.deBruijn32tab", laid_math_bits_deBruijn32tab), ("math/bits.deBruijn64tab", laid_math_bits_deBruijn64tab), ("internal/strconv.uint64pow10", laid_internal_strconv_uint64pow10), ("strconv.ErrRange", laid_strconv_ErrRange), ("strconv.ErrSyntax", laid_strconv_ErrSyntax), ("paling/calc.signs", laid_paling_calc_signs), ("paling/calc.ranks", laid_paling_calc_ranks)], narrowed := true }
def CalcShiftsUptoSaid : Prop := calcShiftsUptoRow.holds Tryd.pinned (OpenSpec.upto calcShiftsSpec)

/-- 'palinglaw01.CalcOrder', WHERE WHAT IT READS IS OF BULK AT MOST 1048576: true; the input reads as it did. -/
def calcOrderUptoRow : OpenClaim := { program := "ytonjhjkhmjfngaadoor", sum := "4dcba262d58dceae33efd495d908bafa241f77c7bcf50fe6aed37aca231b9871", func := "paling/palinglaw01.CalcOrder", spec := "calcOrder", unfollowed := true, recurses := true, named := ["strconv.ErrSyntax", "strconv.ErrRange", "internal/strconv.uint64pow10", "math/bits.deBruijn32tab", "math/bits.deBruijn64tab", "paling/calc.signs", "paling/calc.ranks"], apart := false, laid := [("math/bits.deBruijn32tab", laid_math_bits_deBruijn32tab), ("math/bits.deBruijn64tab", laid_math_bits_deBruijn64tab), ("internal/strconv.uint64pow10", laid_internal_strconv_uint64pow10), ("strconv.ErrRange", laid_strconv_ErrRange), ("strconv.ErrSyntax", laid_strconv_ErrSyntax), ("paling/calc.signs", laid_paling_calc_signs), ("paling/calc.ranks", laid_paling_calc_ranks)], narrowed := true }
def CalcOrderUptoSaid : Prop := calcOrderUptoRow.holds Tryd.pinned (OpenSpec.upto calcOrderSpec)

end Rows
end Go.Proofs.YtonjhjkhmjfngaaDoor
