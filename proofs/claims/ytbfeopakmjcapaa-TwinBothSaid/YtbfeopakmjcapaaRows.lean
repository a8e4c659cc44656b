/-
  No cell of these rows narrows 'for every input' (looked for: loops, veiled, ifaces, maps, wideKeys, modest, calm, conditions, laid).
  DERIVED. THE GIVEN ROWS OF THIS SEAT. 7 by the template 'for every input the law returns true; each argument reads behind the call as it read before'; 0 by the template 'total and deterministic' (their statements: YtbfeopakmjcapaaTotals.lean).
  GIVEN WITH THE SEED: the statements are not yours to turn. If you find one false, say at which input.
  Laid BY PROGRAM, IN A SANDBOX (cutbox-rows.mjs): the forced cells as the released guide's own fill.sh prints them over the translation e1fab51073adf00c… (all of the seat's roots in one cut). By AI agents, Wed Nov 11 2026. No macro, syntax, notation, axiom, sorry.
-/
import Derived.Test.YtbfeopakmjcapaaChecked
import GoSem.Claim
import GoSem.ClaimJoined
import GoSem.ClaimMapViews
import Derived.JoinedTies
import Derived.KernelRfl
namespace Go.Proofs.Ytbfeopakmjcapaa
/- THE CELL 'sum', in the pinned program and in every row, IS THE sha256 OF THE DUMP (.gsa) THAT YtbfeopakmjcapaaProg.lean LOADS. Nothing in Lean hashes anything: it is a label: what it is worth is what the hold of that sum in a sandbox is worth. -/
noncomputable def Try.pinned : Pinned := { name := "ytbfeopakmjcapaa", sum := "e1fab51073adf00c871b5cf2a2436caa7fab24ac3e34ef29dbe05172f3bd5ace", checked := Try.checked }
namespace Rows
def none {H : Type} : Left H := { results := [], args := [] }

/-- 'palinglaw29.SpecBack': WHATEVER THE INPUT: true; the input reads as it did. -/
def specBackSpec : ChangeSpec := { name := "specBack", fn := fun _ => fun
  | [d1, d2, d3] => { results := [.lit (.bool true)], args := [d1, d2, d3] }
  | _ => none }
def specBackRow : OpenClaim := { program := "ytbfeopakmjcapaa", sum := "e1fab51073adf00c871b5cf2a2436caa7fab24ac3e34ef29dbe05172f3bd5ace", func := "paling/palinglaw29.SpecBack", spec := "specBack", unfollowed := true, recurses := true, apart := false }
def SpecBackSaid : Prop := specBackRow.holds Try.pinned (OpenSpec.ofChange specBackSpec)

/-- ITS FALSE NEIGHBOUR: 'it returns false'. Refute it at one input. -/
def specBackWrong : ChangeSpec := { name := "specBack", fn := fun _ => fun
  | [d1, d2, d3] => { results := [.lit (.bool false)], args := [d1, d2, d3] }
  | _ => none }
def SpecBackWrongFalsely : Prop := specBackRow.holds Try.pinned (OpenSpec.ofChange specBackWrong)

/-- 'palinglaw29.SpecSilent': WHATEVER THE INPUT: true; the input reads as it did. -/
def specSilentSpec : ChangeSpec := { name := "specSilent", fn := fun _ => fun
  | [d1, d2, d3] => { results := [.lit (.bool true)], args := [d1, d2, d3] }
  | _ => none }
def specSilentRow : OpenClaim := { program := "ytbfeopakmjcapaa", sum := "e1fab51073adf00c871b5cf2a2436caa7fab24ac3e34ef29dbe05172f3bd5ace", func := "paling/palinglaw29.SpecSilent", spec := "specSilent", unfollowed := true, recurses := true, apart := false }
def SpecSilentSaid : Prop := specSilentRow.holds Try.pinned (OpenSpec.ofChange specSilentSpec)

/-- ITS FALSE NEIGHBOUR: 'it returns false'. Refute it at one input. -/
def specSilentWrong : ChangeSpec := { name := "specSilent", fn := fun _ => fun
  | [d1, d2, d3] => { results := [.lit (.bool false)], args := [d1, d2, d3] }
  | _ => none }
def SpecSilentWrongFalsely : Prop := specSilentRow.holds Try.pinned (OpenSpec.ofChange specSilentWrong)

/-- 'palinglaw29.SpecWindow': WHATEVER THE INPUT: true; the input reads as it did. -/
def specWindowSpec : ChangeSpec := { name := "specWindow", fn := fun _ => fun
  | [d1, d2] => { results := [.lit (.bool true)], args := [d1, d2] }
  | _ => none }
def specWindowRow : OpenClaim := { program := "ytbfeopakmjcapaa", sum := "e1fab51073adf00c871b5cf2a2436caa7fab24ac3e34ef29dbe05172f3bd5ace", func := "paling/palinglaw29.SpecWindow", spec := "specWindow", unfollowed := true, recurses := true, apart := false }
def SpecWindowSaid : Prop := specWindowRow.holds Try.pinned (OpenSpec.ofChange specWindowSpec)

/-- ITS FALSE NEIGHBOUR: 'it returns false'. Refute it at one input. -/
def specWindowWrong : ChangeSpec := { name := "specWindow", fn := fun _ => fun
  | [d1, d2] => { results := [.lit (.bool false)], args := [d1, d2] }
  | _ => none }
def SpecWindowWrongFalsely : Prop := specWindowRow.holds Try.pinned (OpenSpec.ofChange specWindowWrong)

/-- 'palinglaw30.EraseNone': WHATEVER THE INPUT: true; the input reads as it did. -/
def eraseNoneSpec : ChangeSpec := { name := "eraseNone", fn := fun _ => fun
  | [d1, d2, d3] => { results := [.lit (.bool true)], args := [d1, d2, d3] }
  | _ => none }
def eraseNoneRow : OpenClaim := { program := "ytbfeopakmjcapaa", sum := "e1fab51073adf00c871b5cf2a2436caa7fab24ac3e34ef29dbe05172f3bd5ace", func := "paling/palinglaw30.EraseNone", spec := "eraseNone", unfollowed := true, recurses := true, apart := false }
def EraseNoneSaid : Prop := eraseNoneRow.holds Try.pinned (OpenSpec.ofChange eraseNoneSpec)

/-- ITS FALSE NEIGHBOUR: 'it returns false'. Refute it at one input. -/
def eraseNoneWrong : ChangeSpec := { name := "eraseNone", fn := fun _ => fun
  | [d1, d2, d3] => { results := [.lit (.bool false)], args := [d1, d2, d3] }
  | _ => none }
def EraseNoneWrongFalsely : Prop := eraseNoneRow.holds Try.pinned (OpenSpec.ofChange eraseNoneWrong)

/-- 'palinglaw30.EraseJoins': WHATEVER THE INPUT: true; the input reads as it did. -/
def eraseJoinsSpec : ChangeSpec := { name := "eraseJoins", fn := fun _ => fun
  | [d1, d2, d3] => { results := [.lit (.bool true)], args := [d1, d2, d3] }
  | _ => none }
def eraseJoinsRow : OpenClaim := { program := "ytbfeopakmjcapaa", sum := "e1fab51073adf00c871b5cf2a2436caa7fab24ac3e34ef29dbe05172f3bd5ace", func := "paling/palinglaw30.EraseJoins", spec := "eraseJoins", unfollowed := true, recurses := true, apart := false }
def EraseJoinsSaid : Prop := eraseJoinsRow.holds Try.pinned (OpenSpec.ofChange eraseJoinsSpec)

/-- ITS FALSE NEIGHBOUR: 'it returns false'. Refute it at one input. -/
def eraseJoinsWrong : ChangeSpec := { name := "eraseJoins", fn := fun _ => fun
  | [d1, d2, d3] => { results := [.lit (.bool false)], args := [d1, d2, d3] }
  | _ => none }
def EraseJoinsWrongFalsely : Prop := eraseJoinsRow.holds Try.pinned (OpenSpec.ofChange eraseJoinsWrong)

/-- 'palinglaw30.EraseRest': WHATEVER THE INPUT: true; the input reads as it did. -/
def eraseRestSpec : ChangeSpec := { name := "eraseRest", fn := fun _ => fun
  | [d1, d2, d3] => { results := [.lit (.bool true)], args := [d1, d2, d3] }
  | _ => none }
def eraseRestRow : OpenClaim := { program := "ytbfeopakmjcapaa", sum := "e1fab51073adf00c871b5cf2a2436caa7fab24ac3e34ef29dbe05172f3bd5ace", func := "paling/palinglaw30.EraseRest", spec := "eraseRest", unfollowed := true, recurses := true, apart := false }
def EraseRestSaid : Prop := eraseRestRow.holds Try.pinned (OpenSpec.ofChange eraseRestSpec)

/-- ITS FALSE NEIGHBOUR: 'it returns false'. Refute it at one input. -/
def eraseRestWrong : ChangeSpec := { name := "eraseRest", fn := fun _ => fun
  | [d1, d2, d3] => { results := [.lit (.bool false)], args := [d1, d2, d3] }
  | _ => none }
def EraseRestWrongFalsely : Prop := eraseRestRow.holds Try.pinned (OpenSpec.ofChange eraseRestWrong)

/-- 'palinglaw33.TwinBoth': WHATEVER THE INPUT: true; the input reads as it did. -/
def twinBothSpec : ChangeSpec := { name := "twinBoth", fn := fun _ => fun
  | [d1, d2] => { results := [.lit (.bool true)], args := [d1, d2] }
  | _ => none }
def twinBothRow : OpenClaim := { program := "ytbfeopakmjcapaa", sum := "e1fab51073adf00c871b5cf2a2436caa7fab24ac3e34ef29dbe05172f3bd5ace", func := "paling/palinglaw33.TwinBoth", spec := "twinBoth", unfollowed := true, recurses := true, apart := false }
def TwinBothSaid : Prop := twinBothRow.holds Try.pinned (OpenSpec.ofChange twinBothSpec)

/-- ITS FALSE NEIGHBOUR: 'it returns false'. Refute it at one input. -/
def twinBothWrong : ChangeSpec := { name := "twinBoth", fn := fun _ => fun
  | [d1, d2] => { results := [.lit (.bool false)], args := [d1, d2] }
  | _ => none }
def TwinBothWrongFalsely : Prop := twinBothRow.holds Try.pinned (OpenSpec.ofChange twinBothWrong)

/- THE SECOND FORM. 'bulk': how many values and letters a reading holds, each counted each time it is reached (what is shared counts as often as it is met; a slice's spare places count too). A statement '..UptoSaid' is the law's where the arguments, and the package variables that the reading takes, are together of bulk at most 1048576: NARROWER than '..Said'. Prove '..Said' where nothing that the law and all that it calls make is longer than what came in: it says more and counts as full. Else prove '..UptoSaid'. A law counts once. -/
mutual
def uptoBulk {H : Type} : DataW H → Nat
  | .lit (.string bytes) => bytes.length + 1
  | .lit _ => 1
  | .nil => 1
  | .ptr d => uptoBulk d + 1
  | .slice elems spare => uptoBulkAll elems + uptoBulkAll spare + 1
  | .agg parts => uptoBulkAll parts + 1
  | .iface _ d => uptoBulk d + 1
  | .map entries => uptoBulkEntries entries + 1
  | .held _ => 1
def uptoBulkAll {H : Type} : List (DataW H) → Nat
  | [] => 0
  | d :: r => uptoBulk d + uptoBulkAll r
def uptoBulkEntries {H : Type} : List (Lit × DataW H) → Nat
  | [] => 0
  | x :: r => uptoBulkEntry x + uptoBulkEntries r
def uptoBulkEntry {H : Type} : Lit × DataW H → Nat
  | (.string bytes, d) => bytes.length + uptoBulk d + 1
  | (_, d) => uptoBulk d + 1
 end
def uptoSmall : (H : Type) → List (DataW H) → Bool := fun _ ds => decide (uptoBulkAll ds ≤ 1048576)
def OpenSpec.upto (s : _root_.Go.ChangeSpec) : _root_.Go.OpenSpec := { _root_.Go.OpenSpec.ofChange s with cond := some uptoSmall }

/-- 'palinglaw29.SpecBack', WHERE WHAT IT READS IS OF BULK AT MOST 1048576: true; the input reads as it did. -/
def specBackUptoRow : OpenClaim := { program := "ytbfeopakmjcapaa", sum := "e1fab51073adf00c871b5cf2a2436caa7fab24ac3e34ef29dbe05172f3bd5ace", func := "paling/palinglaw29.SpecBack", spec := "specBack", unfollowed := true, recurses := true, apart := false, narrowed := true }
def SpecBackUptoSaid : Prop := specBackUptoRow.holds Try.pinned (OpenSpec.upto specBackSpec)

/-- 'palinglaw29.SpecSilent', WHERE WHAT IT READS IS OF BULK AT MOST 1048576: true; the input reads as it did. -/
def specSilentUptoRow : OpenClaim := { program := "ytbfeopakmjcapaa", sum := "e1fab51073adf00c871b5cf2a2436caa7fab24ac3e34ef29dbe05172f3bd5ace", func := "paling/palinglaw29.SpecSilent", spec := "specSilent", unfollowed := true, recurses := true, apart := false, narrowed := true }
def SpecSilentUptoSaid : Prop := specSilentUptoRow.holds Try.pinned (OpenSpec.upto specSilentSpec)

/-- 'palinglaw29.SpecWindow', WHERE WHAT IT READS IS OF BULK AT MOST 1048576: true; the input reads as it did. -/
def specWindowUptoRow : OpenClaim := { program := "ytbfeopakmjcapaa", sum := "e1fab51073adf00c871b5cf2a2436caa7fab24ac3e34ef29dbe05172f3bd5ace", func := "paling/palinglaw29.SpecWindow", spec := "specWindow", unfollowed := true, recurses := true, apart := false, narrowed := true }
def SpecWindowUptoSaid : Prop := specWindowUptoRow.holds Try.pinned (OpenSpec.upto specWindowSpec)

/-- 'palinglaw30.EraseNone', WHERE WHAT IT READS IS OF BULK AT MOST 1048576: true; the input reads as it did. -/
def eraseNoneUptoRow : OpenClaim := { program := "ytbfeopakmjcapaa", sum := "e1fab51073adf00c871b5cf2a2436caa7fab24ac3e34ef29dbe05172f3bd5ace", func := "paling/palinglaw30.EraseNone", spec := "eraseNone", unfollowed := true, recurses := true, apart := false, narrowed := true }
def EraseNoneUptoSaid : Prop := eraseNoneUptoRow.holds Try.pinned (OpenSpec.upto eraseNoneSpec)

/-- 'palinglaw30.EraseJoins', WHERE WHAT IT READS IS OF BULK AT MOST 1048576: true; the input reads as it did. -/
def eraseJoinsUptoRow : OpenClaim := { program := "ytbfeopakmjcapaa", sum := "e1fab51073adf00c871b5cf2a2436caa7fab24ac3e34ef29dbe05172f3bd5ace", func := "paling/palinglaw30.EraseJoins", spec := "eraseJoins", unfollowed := true, recurses := true, apart := false, narrowed := true }
def EraseJoinsUptoSaid : Prop := eraseJoinsUptoRow.holds Try.pinned (OpenSpec.upto eraseJoinsSpec)

/-- 'palinglaw30.EraseRest', WHERE WHAT IT READS IS OF BULK AT MOST 1048576: true; the input reads as it did. -/
def eraseRestUptoRow : OpenClaim := { program := "ytbfeopakmjcapaa", sum := "e1fab51073adf00c871b5cf2a2436caa7fab24ac3e34ef29dbe05172f3bd5ace", func := "paling/palinglaw30.EraseRest", spec := "eraseRest", unfollowed := true, recurses := true, apart := false, narrowed := true }
def EraseRestUptoSaid : Prop := eraseRestUptoRow.holds Try.pinned (OpenSpec.upto eraseRestSpec)

/-- 'palinglaw33.TwinBoth', WHERE WHAT IT READS IS OF BULK AT MOST 1048576: true; the input reads as it did. -/
def twinBothUptoRow : OpenClaim := { program := "ytbfeopakmjcapaa", sum := "e1fab51073adf00c871b5cf2a2436caa7fab24ac3e34ef29dbe05172f3bd5ace", func := "paling/palinglaw33.TwinBoth", spec := "twinBoth", unfollowed := true, recurses := true, apart := false, narrowed := true }
def TwinBothUptoSaid : Prop := twinBothUptoRow.holds Try.pinned (OpenSpec.upto twinBothSpec)

end Rows
end Go.Proofs.Ytbfeopakmjcapaa
