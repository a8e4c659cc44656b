/-
  DERIVED. GIVEN WITH THE SEED: THE CARDS: each row of YtonjhjkhmjfngaaDoorRows.lean that lists a variable, with what it lists TIED to the program's text (the seventh form; the later family's looks); each row that meets fmt, with fmt's text TOLD by the authors' own Lean function (tested against real Go, not proved from fmt's source: count such statements apart). THE CARD IS WHAT COUNTS. Prove the row's statement (the work); the ties are given (YtonjhjkhmjfngaaDoorTie.lean); close each card by the builder's one call (the guide's Derived/Test/ToyasCard.lean, 'card_holds'). Laid BY PROGRAM, IN A SANDBOX (cutbox-door.mjs). By AI agents, Wed Nov 11 2026. No macro, syntax, notation, axiom, sorry.
-/
import Derived.Test.YtonjhjkhmjfngaaDoorRows
import GoSem.ClaimSeven
namespace Go.Proofs.YtonjhjkhmjfngaaDoor
namespace Rows

/-- THE TIED CARD OF 'palinglaw01.CalcEvals'. -/
def calcEvalsCard : Claim7 := { stood := { row := calcEvalsRow, standIns := [], harness := (true, "326c62485005f21d80121423f7eb0e905d0d1c6bf476816f79dab15dfc866374"), looks := true }, kinds := [], alts := [], laidByText := true, laidKinds := [.data, .data, .data, .sentinel, .sentinel, .widerDeep, .data], laidTests := true, laidLooks := .later }
def CalcEvalsCardSaid : Prop := Claim7.holds Tryd.pinned (.plain (OpenSpec.ofChange calcEvalsSpec)) calcEvalsCard

/-- THE TIED CARD OF 'palinglaw01.CalcSigns'. -/
def calcSignsCard : Claim7 := { stood := { row := calcSignsRow, standIns := [], harness := (true, "326c62485005f21d80121423f7eb0e905d0d1c6bf476816f79dab15dfc866374"), looks := true }, kinds := [], alts := [], laidByText := true, laidKinds := [.data, .data, .data, .sentinel, .sentinel, .widerDeep, .data], laidTests := true, laidLooks := .later }
def CalcSignsCardSaid : Prop := Claim7.holds Tryd.pinned (.plain (OpenSpec.ofChange calcSignsSpec)) calcSignsCard

/-- THE TIED CARD OF 'palinglaw01.CalcNumbers'. -/
def calcNumbersCard : Claim7 := { stood := { row := calcNumbersRow, standIns := [], harness := (true, "326c62485005f21d80121423f7eb0e905d0d1c6bf476816f79dab15dfc866374"), looks := true }, kinds := [], alts := [], laidByText := true, laidKinds := [.data, .data, .data, .sentinel, .sentinel, .widerDeep, .data], laidTests := true, laidLooks := .later }
def CalcNumbersCardSaid : Prop := Claim7.holds Tryd.pinned (.plain (OpenSpec.ofChange calcNumbersSpec)) calcNumbersCard

/-- THE TIED CARD OF 'palinglaw01.CalcRest'. -/
def calcRestCard : Claim7 := { stood := { row := calcRestRow, standIns := [], harness := (true, "326c62485005f21d80121423f7eb0e905d0d1c6bf476816f79dab15dfc866374"), looks := true }, kinds := [], alts := [], laidByText := true, laidKinds := [.data, .data, .data, .sentinel, .sentinel, .widerDeep, .data], laidTests := true, laidLooks := .later }
def CalcRestCardSaid : Prop := Claim7.holds Tryd.pinned (.plain (OpenSpec.ofChange calcRestSpec)) calcRestCard

/-- THE TIED CARD OF 'palinglaw01.CalcSame'. -/
def calcSameCard : Claim7 := { stood := { row := calcSameRow, standIns := [], harness := (true, "326c62485005f21d80121423f7eb0e905d0d1c6bf476816f79dab15dfc866374"), looks := true }, kinds := [], alts := [], laidByText := true, laidKinds := [.data, .data, .data, .sentinel, .sentinel, .widerDeep, .data], laidTests := true, laidLooks := .later }
def CalcSameCardSaid : Prop := Claim7.holds Tryd.pinned (.plain (OpenSpec.ofChange calcSameSpec)) calcSameCard

/-- THE TIED CARD OF 'palinglaw01.CalcShifts'. -/
def calcShiftsCard : Claim7 := { stood := { row := calcShiftsRow, standIns := [], harness := (true, "326c62485005f21d80121423f7eb0e905d0d1c6bf476816f79dab15dfc866374"), looks := true }, kinds := [], alts := [], laidByText := true, laidKinds := [.data, .data, .data, .sentinel, .sentinel, .widerDeep, .data], laidTests := true, laidLooks := .later }
def CalcShiftsCardSaid : Prop := Claim7.holds Tryd.pinned (.plain (OpenSpec.ofChange calcShiftsSpec)) calcShiftsCard

/-- THE TIED CARD OF 'palinglaw01.CalcOrder'. -/
def calcOrderCard : Claim7 := { stood := { row := calcOrderRow, standIns := [], harness := (true, "326c62485005f21d80121423f7eb0e905d0d1c6bf476816f79dab15dfc866374"), looks := true }, kinds := [], alts := [], laidByText := true, laidKinds := [.data, .data, .data, .sentinel, .sentinel, .widerDeep, .data], laidTests := true, laidLooks := .later }
def CalcOrderCardSaid : Prop := Claim7.holds Tryd.pinned (.plain (OpenSpec.ofChange calcOrderSpec)) calcOrderCard

/-- THE SECOND FORM's CARD OF 'palinglaw01.CalcEvals'. -/
def calcEvalsUptoCard : Claim7 := { stood := { row := calcEvalsUptoRow, standIns := [], harness := (true, "326c62485005f21d80121423f7eb0e905d0d1c6bf476816f79dab15dfc866374"), looks := true }, kinds := [], alts := [], laidByText := true, laidKinds := [.data, .data, .data, .sentinel, .sentinel, .widerDeep, .data], laidTests := true, laidLooks := .later }
def CalcEvalsUptoCardSaid : Prop := Claim7.holds Tryd.pinned (.plain (OpenSpec.upto calcEvalsSpec)) calcEvalsUptoCard

/-- THE SECOND FORM's CARD OF 'palinglaw01.CalcSigns'. -/
def calcSignsUptoCard : Claim7 := { stood := { row := calcSignsUptoRow, standIns := [], harness := (true, "326c62485005f21d80121423f7eb0e905d0d1c6bf476816f79dab15dfc866374"), looks := true }, kinds := [], alts := [], laidByText := true, laidKinds := [.data, .data, .data, .sentinel, .sentinel, .widerDeep, .data], laidTests := true, laidLooks := .later }
def CalcSignsUptoCardSaid : Prop := Claim7.holds Tryd.pinned (.plain (OpenSpec.upto calcSignsSpec)) calcSignsUptoCard

/-- THE SECOND FORM's CARD OF 'palinglaw01.CalcNumbers'. -/
def calcNumbersUptoCard : Claim7 := { stood := { row := calcNumbersUptoRow, standIns := [], harness := (true, "326c62485005f21d80121423f7eb0e905d0d1c6bf476816f79dab15dfc866374"), looks := true }, kinds := [], alts := [], laidByText := true, laidKinds := [.data, .data, .data, .sentinel, .sentinel, .widerDeep, .data], laidTests := true, laidLooks := .later }
def CalcNumbersUptoCardSaid : Prop := Claim7.holds Tryd.pinned (.plain (OpenSpec.upto calcNumbersSpec)) calcNumbersUptoCard

/-- THE SECOND FORM's CARD OF 'palinglaw01.CalcRest'. -/
def calcRestUptoCard : Claim7 := { stood := { row := calcRestUptoRow, standIns := [], harness := (true, "326c62485005f21d80121423f7eb0e905d0d1c6bf476816f79dab15dfc866374"), looks := true }, kinds := [], alts := [], laidByText := true, laidKinds := [.data, .data, .data, .sentinel, .sentinel, .widerDeep, .data], laidTests := true, laidLooks := .later }
def CalcRestUptoCardSaid : Prop := Claim7.holds Tryd.pinned (.plain (OpenSpec.upto calcRestSpec)) calcRestUptoCard

/-- THE SECOND FORM's CARD OF 'palinglaw01.CalcSame'. -/
def calcSameUptoCard : Claim7 := { stood := { row := calcSameUptoRow, standIns := [], harness := (true, "326c62485005f21d80121423f7eb0e905d0d1c6bf476816f79dab15dfc866374"), looks := true }, kinds := [], alts := [], laidByText := true, laidKinds := [.data, .data, .data, .sentinel, .sentinel, .widerDeep, .data], laidTests := true, laidLooks := .later }
def CalcSameUptoCardSaid : Prop := Claim7.holds Tryd.pinned (.plain (OpenSpec.upto calcSameSpec)) calcSameUptoCard

/-- THE SECOND FORM's CARD OF 'palinglaw01.CalcShifts'. -/
def calcShiftsUptoCard : Claim7 := { stood := { row := calcShiftsUptoRow, standIns := [], harness := (true, "326c62485005f21d80121423f7eb0e905d0d1c6bf476816f79dab15dfc866374"), looks := true }, kinds := [], alts := [], laidByText := true, laidKinds := [.data, .data, .data, .sentinel, .sentinel, .widerDeep, .data], laidTests := true, laidLooks := .later }
def CalcShiftsUptoCardSaid : Prop := Claim7.holds Tryd.pinned (.plain (OpenSpec.upto calcShiftsSpec)) calcShiftsUptoCard

/-- THE SECOND FORM's CARD OF 'palinglaw01.CalcOrder'. -/
def calcOrderUptoCard : Claim7 := { stood := { row := calcOrderUptoRow, standIns := [], harness := (true, "326c62485005f21d80121423f7eb0e905d0d1c6bf476816f79dab15dfc866374"), looks := true }, kinds := [], alts := [], laidByText := true, laidKinds := [.data, .data, .data, .sentinel, .sentinel, .widerDeep, .data], laidTests := true, laidLooks := .later }
def CalcOrderUptoCardSaid : Prop := Claim7.holds Tryd.pinned (.plain (OpenSpec.upto calcOrderSpec)) calcOrderUptoCard
end Rows
end Go.Proofs.YtonjhjkhmjfngaaDoor
