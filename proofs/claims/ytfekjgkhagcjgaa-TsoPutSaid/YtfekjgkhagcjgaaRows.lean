/-
  No cell of these rows narrows 'for every input' (looked for: loops, veiled, ifaces, maps, wideKeys, modest, calm, conditions, laid).
  DERIVED. THE GIVEN ROWS OF THIS SEAT. 4 by the template 'for every input the law returns true; each argument reads behind the call as it read before'; 0 by the template 'total and deterministic' (their statements: YtfekjgkhagcjgaaTotals.lean).
  GIVEN WITH THE SEED: the statements are not yours to turn. If you find one false, say at which input.
  Laid BY PROGRAM, IN A SANDBOX (cutbox-rows.mjs): the forced cells as the released guide's own fill.sh prints them over the translation 3794f17cb8cd8817… (all of the seat's roots in one cut). By AI agents, Wed Nov 11 2026. No macro, syntax, notation, axiom, sorry.
-/
import Derived.Test.YtfekjgkhagcjgaaChecked
import GoSem.Claim
import GoSem.ClaimJoined
import GoSem.ClaimMapViews
import Derived.JoinedTies
import Derived.KernelRfl
namespace Go.Proofs.Ytfekjgkhagcjgaa
/- THE CELL 'sum', in the pinned program and in every row, IS THE sha256 OF THE DUMP (.gsa) THAT YtfekjgkhagcjgaaProg.lean LOADS. Nothing in Lean hashes anything: it is a label: what it is worth is what the hold of that sum in a sandbox is worth. -/
noncomputable def Try.pinned : Pinned := { name := "ytfekjgkhagcjgaa", sum := "3794f17cb8cd881738532d76d0f0f6e68396ba51c4bfb78bc7a7358ea699d7f4", checked := Try.checked }
namespace Rows
def none {H : Type} : Left H := { results := [], args := [] }

/-- 'palinglaw28.TsoRuns': WHATEVER THE INPUT: true; the input reads as it did. -/
def tsoRunsSpec : ChangeSpec := { name := "tsoRuns", fn := fun _ => fun
  | [d1, d2, d3] => { results := [.lit (.bool true)], args := [d1, d2, d3] }
  | _ => none }
def tsoRunsRow : OpenClaim := { program := "ytfekjgkhagcjgaa", sum := "3794f17cb8cd881738532d76d0f0f6e68396ba51c4bfb78bc7a7358ea699d7f4", func := "paling/palinglaw28.TsoRuns", spec := "tsoRuns", unfollowed := true, recurses := true, apart := false }
def TsoRunsSaid : Prop := tsoRunsRow.holds Try.pinned (OpenSpec.ofChange tsoRunsSpec)

/-- ITS FALSE NEIGHBOUR: 'it returns false'. Refute it at one input. -/
def tsoRunsWrong : ChangeSpec := { name := "tsoRuns", fn := fun _ => fun
  | [d1, d2, d3] => { results := [.lit (.bool false)], args := [d1, d2, d3] }
  | _ => none }
def TsoRunsWrongFalsely : Prop := tsoRunsRow.holds Try.pinned (OpenSpec.ofChange tsoRunsWrong)

/-- 'palinglaw28.TsoSeq': WHATEVER THE INPUT: true; the input reads as it did. -/
def tsoSeqSpec : ChangeSpec := { name := "tsoSeq", fn := fun _ => fun
  | [d1, d2, d3] => { results := [.lit (.bool true)], args := [d1, d2, d3] }
  | _ => none }
def tsoSeqRow : OpenClaim := { program := "ytfekjgkhagcjgaa", sum := "3794f17cb8cd881738532d76d0f0f6e68396ba51c4bfb78bc7a7358ea699d7f4", func := "paling/palinglaw28.TsoSeq", spec := "tsoSeq", unfollowed := true, recurses := true, apart := false }
def TsoSeqSaid : Prop := tsoSeqRow.holds Try.pinned (OpenSpec.ofChange tsoSeqSpec)

/-- ITS FALSE NEIGHBOUR: 'it returns false'. Refute it at one input. -/
def tsoSeqWrong : ChangeSpec := { name := "tsoSeq", fn := fun _ => fun
  | [d1, d2, d3] => { results := [.lit (.bool false)], args := [d1, d2, d3] }
  | _ => none }
def TsoSeqWrongFalsely : Prop := tsoSeqRow.holds Try.pinned (OpenSpec.ofChange tsoSeqWrong)

/-- 'palinglaw28.TsoLeaks': WHATEVER THE INPUT: true; the input reads as it did. -/
def tsoLeaksSpec : ChangeSpec := { name := "tsoLeaks", fn := fun _ => fun
  | [d1, d2, d3] => { results := [.lit (.bool true)], args := [d1, d2, d3] }
  | _ => none }
def tsoLeaksRow : OpenClaim := { program := "ytfekjgkhagcjgaa", sum := "3794f17cb8cd881738532d76d0f0f6e68396ba51c4bfb78bc7a7358ea699d7f4", func := "paling/palinglaw28.TsoLeaks", spec := "tsoLeaks", unfollowed := true, recurses := true, apart := false }
def TsoLeaksSaid : Prop := tsoLeaksRow.holds Try.pinned (OpenSpec.ofChange tsoLeaksSpec)

/-- ITS FALSE NEIGHBOUR: 'it returns false'. Refute it at one input. -/
def tsoLeaksWrong : ChangeSpec := { name := "tsoLeaks", fn := fun _ => fun
  | [d1, d2, d3] => { results := [.lit (.bool false)], args := [d1, d2, d3] }
  | _ => none }
def TsoLeaksWrongFalsely : Prop := tsoLeaksRow.holds Try.pinned (OpenSpec.ofChange tsoLeaksWrong)

/-- 'palinglaw28.TsoPut': WHATEVER THE INPUT: true; the input reads as it did. -/
def tsoPutSpec : ChangeSpec := { name := "tsoPut", fn := fun _ => fun
  | [d1, d2, d3] => { results := [.lit (.bool true)], args := [d1, d2, d3] }
  | _ => none }
def tsoPutRow : OpenClaim := { program := "ytfekjgkhagcjgaa", sum := "3794f17cb8cd881738532d76d0f0f6e68396ba51c4bfb78bc7a7358ea699d7f4", func := "paling/palinglaw28.TsoPut", spec := "tsoPut", unfollowed := true, recurses := true, apart := false }
def TsoPutSaid : Prop := tsoPutRow.holds Try.pinned (OpenSpec.ofChange tsoPutSpec)

/-- ITS FALSE NEIGHBOUR: 'it returns false'. Refute it at one input. -/
def tsoPutWrong : ChangeSpec := { name := "tsoPut", fn := fun _ => fun
  | [d1, d2, d3] => { results := [.lit (.bool false)], args := [d1, d2, d3] }
  | _ => none }
def TsoPutWrongFalsely : Prop := tsoPutRow.holds Try.pinned (OpenSpec.ofChange tsoPutWrong)

/- THE SECOND FORM. 'bulk': how many values and letters a reading holds, each counted each time it is reached (what is shared counts as often as it is met; a slice's spare places count too). A statement '..UptoSaid' is the law's where the arguments, and the package variables that the reading takes, are together of bulk at most 1048576: NARROWER than '..Said'. Prove '..Said' where nothing that the law and all that it calls make is longer than what came in: it says more and counts as full. Else prove '..UptoSaid'. A law counts once. -/
mutual
def uptoBulk {H : Type} : DataW H → Nat
  | .lit (.string bytes) => bytes.length + 1
  | .lit _ => 1
  | .nil => 1
  | .ptr d => uptoBulk d + 1
  | .slice elems spare => uptoBulkAll elems + uptoBulkAll spare + 1
  | .agg parts => uptoBulkAll parts + 1
  | .iface _ d => uptoBulk d + 1
  | .map entries => uptoBulkEntries entries + 1
  | .held _ => 1
def uptoBulkAll {H : Type} : List (DataW H) → Nat
  | [] => 0
  | d :: r => uptoBulk d + uptoBulkAll r
def uptoBulkEntries {H : Type} : List (Lit × DataW H) → Nat
  | [] => 0
  | x :: r => uptoBulkEntry x + uptoBulkEntries r
def uptoBulkEntry {H : Type} : Lit × DataW H → Nat
  | (.string bytes, d) => bytes.length + uptoBulk d + 1
  | (_, d) => uptoBulk d + 1
 end
def uptoSmall : (H : Type) → List (DataW H) → Bool := fun _ ds => decide (uptoBulkAll ds ≤ 1048576)
def OpenSpec.upto (s : _root_.Go.ChangeSpec) : _root_.Go.OpenSpec := { _root_.Go.OpenSpec.ofChange s with cond := some uptoSmall }

/-- 'palinglaw28.TsoRuns', WHERE WHAT IT READS IS OF BULK AT MOST 1048576: true; the input reads as it did. -/
def tsoRunsUptoRow : OpenClaim := { program := "ytfekjgkhagcjgaa", sum := "3794f17cb8cd881738532d76d0f0f6e68396ba51c4bfb78bc7a7358ea699d7f4", func := "paling/palinglaw28.TsoRuns", spec := "tsoRuns", unfollowed := true, recurses := true, apart := false, narrowed := true }
def TsoRunsUptoSaid : Prop := tsoRunsUptoRow.holds Try.pinned (OpenSpec.upto tsoRunsSpec)

/-- 'palinglaw28.TsoSeq', WHERE WHAT IT READS IS OF BULK AT MOST 1048576: true; the input reads as it did. -/
def tsoSeqUptoRow : OpenClaim := { program := "ytfekjgkhagcjgaa", sum := "3794f17cb8cd881738532d76d0f0f6e68396ba51c4bfb78bc7a7358ea699d7f4", func := "paling/palinglaw28.TsoSeq", spec := "tsoSeq", unfollowed := true, recurses := true, apart := false, narrowed := true }
def TsoSeqUptoSaid : Prop := tsoSeqUptoRow.holds Try.pinned (OpenSpec.upto tsoSeqSpec)

/-- 'palinglaw28.TsoLeaks', WHERE WHAT IT READS IS OF BULK AT MOST 1048576: true; the input reads as it did. -/
def tsoLeaksUptoRow : OpenClaim := { program := "ytfekjgkhagcjgaa", sum := "3794f17cb8cd881738532d76d0f0f6e68396ba51c4bfb78bc7a7358ea699d7f4", func := "paling/palinglaw28.TsoLeaks", spec := "tsoLeaks", unfollowed := true, recurses := true, apart := false, narrowed := true }
def TsoLeaksUptoSaid : Prop := tsoLeaksUptoRow.holds Try.pinned (OpenSpec.upto tsoLeaksSpec)

/-- 'palinglaw28.TsoPut', WHERE WHAT IT READS IS OF BULK AT MOST 1048576: true; the input reads as it did. -/
def tsoPutUptoRow : OpenClaim := { program := "ytfekjgkhagcjgaa", sum := "3794f17cb8cd881738532d76d0f0f6e68396ba51c4bfb78bc7a7358ea699d7f4", func := "paling/palinglaw28.TsoPut", spec := "tsoPut", unfollowed := true, recurses := true, apart := false, narrowed := true }
def TsoPutUptoSaid : Prop := tsoPutUptoRow.holds Try.pinned (OpenSpec.upto tsoPutSpec)

end Rows
end Go.Proofs.Ytfekjgkhagcjgaa
