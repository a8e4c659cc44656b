/-
  No cell of these rows narrows 'for every input' (looked for: loops, veiled, ifaces, maps, wideKeys, modest, calm, conditions, laid).
  DERIVED. THE GIVEN ROWS OF THIS SEAT. 3 by the template 'for every input the law returns true; each argument reads behind the call as it read before'; 0 by the template 'total and deterministic' (their statements: YtokmdjpaegaojaaTotals.lean).
  GIVEN WITH THE SEED: the statements are not yours to turn. If you find one false, say at which input.
  Laid BY PROGRAM, IN A SANDBOX (cutbox-rows.mjs): the forced cells as the released guide's own fill.sh prints them over the translation ab4b7e40fd001f42… (all of the seat's roots in one cut). By AI agents, Wed Nov 11 2026. No macro, syntax, notation, axiom, sorry.
-/
import Derived.Test.YtokmdjpaegaojaaChecked
import GoSem.Claim
import GoSem.ClaimJoined
import GoSem.ClaimMapViews
import Derived.JoinedTies
import Derived.KernelRfl
namespace Go.Proofs.Ytokmdjpaegaojaa
/- THE CELL 'sum', in the pinned program and in every row, IS THE sha256 OF THE DUMP (.gsa) THAT YtokmdjpaegaojaaProg.lean LOADS. Nothing in Lean hashes anything: it is a label: what it is worth is what the hold of that sum in a sandbox is worth. -/
noncomputable def Try.pinned : Pinned := { name := "ytokmdjpaegaojaa", sum := "ab4b7e40fd001f42828e01282fd173ee664dde3ee796ae90109a3519bb14ec98", checked := Try.checked }
namespace Rows
def none {H : Type} : Left H := { results := [], args := [] }

/-- 'palinglaw12.SeqRests': WHATEVER THE INPUT: true; the input reads as it did. -/
def seqRestsSpec : ChangeSpec := { name := "seqRests", fn := fun _ => fun
  | [d1, d2, d3] => { results := [.lit (.bool true)], args := [d1, d2, d3] }
  | _ => none }
def seqRestsRow : OpenClaim := { program := "ytokmdjpaegaojaa", sum := "ab4b7e40fd001f42828e01282fd173ee664dde3ee796ae90109a3519bb14ec98", func := "paling/palinglaw12.SeqRests", spec := "seqRests", unfollowed := true, recurses := true, apart := false }
def SeqRestsSaid : Prop := seqRestsRow.holds Try.pinned (OpenSpec.ofChange seqRestsSpec)

/-- ITS FALSE NEIGHBOUR: 'it returns false'. Refute it at one input. -/
def seqRestsWrong : ChangeSpec := { name := "seqRests", fn := fun _ => fun
  | [d1, d2, d3] => { results := [.lit (.bool false)], args := [d1, d2, d3] }
  | _ => none }
def SeqRestsWrongFalsely : Prop := seqRestsRow.holds Try.pinned (OpenSpec.ofChange seqRestsWrong)

/-- 'palinglaw12.SeqAlone': WHATEVER THE INPUT: true; the input reads as it did. -/
def seqAloneSpec : ChangeSpec := { name := "seqAlone", fn := fun _ => fun
  | [d1, d2, d3] => { results := [.lit (.bool true)], args := [d1, d2, d3] }
  | _ => none }
def seqAloneRow : OpenClaim := { program := "ytokmdjpaegaojaa", sum := "ab4b7e40fd001f42828e01282fd173ee664dde3ee796ae90109a3519bb14ec98", func := "paling/palinglaw12.SeqAlone", spec := "seqAlone", unfollowed := true, recurses := true, apart := false }
def SeqAloneSaid : Prop := seqAloneRow.holds Try.pinned (OpenSpec.ofChange seqAloneSpec)

/-- ITS FALSE NEIGHBOUR: 'it returns false'. Refute it at one input. -/
def seqAloneWrong : ChangeSpec := { name := "seqAlone", fn := fun _ => fun
  | [d1, d2, d3] => { results := [.lit (.bool false)], args := [d1, d2, d3] }
  | _ => none }
def SeqAloneWrongFalsely : Prop := seqAloneRow.holds Try.pinned (OpenSpec.ofChange seqAloneWrong)

/-- 'palinglaw12.SeqStill': WHATEVER THE INPUT: true; the input reads as it did. -/
def seqStillSpec : ChangeSpec := { name := "seqStill", fn := fun _ => fun
  | [d1, d2, d3] => { results := [.lit (.bool true)], args := [d1, d2, d3] }
  | _ => none }
def seqStillRow : OpenClaim := { program := "ytokmdjpaegaojaa", sum := "ab4b7e40fd001f42828e01282fd173ee664dde3ee796ae90109a3519bb14ec98", func := "paling/palinglaw12.SeqStill", spec := "seqStill", unfollowed := true, recurses := true, apart := false }
def SeqStillSaid : Prop := seqStillRow.holds Try.pinned (OpenSpec.ofChange seqStillSpec)

/-- ITS FALSE NEIGHBOUR: 'it returns false'. Refute it at one input. -/
def seqStillWrong : ChangeSpec := { name := "seqStill", fn := fun _ => fun
  | [d1, d2, d3] => { results := [.lit (.bool false)], args := [d1, d2, d3] }
  | _ => none }
def SeqStillWrongFalsely : Prop := seqStillRow.holds Try.pinned (OpenSpec.ofChange seqStillWrong)

/- THE SECOND FORM. 'bulk': how many values and letters a reading holds, each counted each time it is reached (what is shared counts as often as it is met; a slice's spare places count too). A statement '..UptoSaid' is the law's where the arguments, and the package variables that the reading takes, are together of bulk at most 1048576: NARROWER than '..Said'. Prove '..Said' where nothing that the law and all that it calls make is longer than what came in: it says more and counts as full. Else prove '..UptoSaid'. A law counts once. -/
mutual
def uptoBulk {H : Type} : DataW H → Nat
  | .lit (.string bytes) => bytes.length + 1
  | .lit _ => 1
  | .nil => 1
  | .ptr d => uptoBulk d + 1
  | .slice elems spare => uptoBulkAll elems + uptoBulkAll spare + 1
  | .agg parts => uptoBulkAll parts + 1
  | .iface _ d => uptoBulk d + 1
  | .map entries => uptoBulkEntries entries + 1
  | .held _ => 1
def uptoBulkAll {H : Type} : List (DataW H) → Nat
  | [] => 0
  | d :: r => uptoBulk d + uptoBulkAll r
def uptoBulkEntries {H : Type} : List (Lit × DataW H) → Nat
  | [] => 0
  | x :: r => uptoBulkEntry x + uptoBulkEntries r
def uptoBulkEntry {H : Type} : Lit × DataW H → Nat
  | (.string bytes, d) => bytes.length + uptoBulk d + 1
  | (_, d) => uptoBulk d + 1
 end
def uptoSmall : (H : Type) → List (DataW H) → Bool := fun _ ds => decide (uptoBulkAll ds ≤ 1048576)
def OpenSpec.upto (s : _root_.Go.ChangeSpec) : _root_.Go.OpenSpec := { _root_.Go.OpenSpec.ofChange s with cond := some uptoSmall }

/-- 'palinglaw12.SeqRests', WHERE WHAT IT READS IS OF BULK AT MOST 1048576: true; the input reads as it did. -/
def seqRestsUptoRow : OpenClaim := { program := "ytokmdjpaegaojaa", sum := "ab4b7e40fd001f42828e01282fd173ee664dde3ee796ae90109a3519bb14ec98", func := "paling/palinglaw12.SeqRests", spec := "seqRests", unfollowed := true, recurses := true, apart := false, narrowed := true }
def SeqRestsUptoSaid : Prop := seqRestsUptoRow.holds Try.pinned (OpenSpec.upto seqRestsSpec)

/-- 'palinglaw12.SeqAlone', WHERE WHAT IT READS IS OF BULK AT MOST 1048576: true; the input reads as it did. -/
def seqAloneUptoRow : OpenClaim := { program := "ytokmdjpaegaojaa", sum := "ab4b7e40fd001f42828e01282fd173ee664dde3ee796ae90109a3519bb14ec98", func := "paling/palinglaw12.SeqAlone", spec := "seqAlone", unfollowed := true, recurses := true, apart := false, narrowed := true }
def SeqAloneUptoSaid : Prop := seqAloneUptoRow.holds Try.pinned (OpenSpec.upto seqAloneSpec)

/-- 'palinglaw12.SeqStill', WHERE WHAT IT READS IS OF BULK AT MOST 1048576: true; the input reads as it did. -/
def seqStillUptoRow : OpenClaim := { program := "ytokmdjpaegaojaa", sum := "ab4b7e40fd001f42828e01282fd173ee664dde3ee796ae90109a3519bb14ec98", func := "paling/palinglaw12.SeqStill", spec := "seqStill", unfollowed := true, recurses := true, apart := false, narrowed := true }
def SeqStillUptoSaid : Prop := seqStillUptoRow.holds Try.pinned (OpenSpec.upto seqStillSpec)

end Rows
end Go.Proofs.Ytokmdjpaegaojaa
