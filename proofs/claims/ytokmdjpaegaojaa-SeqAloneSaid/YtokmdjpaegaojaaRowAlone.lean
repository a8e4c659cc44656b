/-
  The row of SeqAlone: whatever the input, it answers true, and the input reads as it did.
-/
import Derived.Test.YtokmdjpaegaojaaRows
import Derived.Test.YtokmdjpaegaojaaOpen
import Derived.Test.YtokmdjpaegaojaaOpenC
import Derived.Test.YtokmdjpaegaojaaSeq12
import Derived.WalkKit
import Derived.ProofKit
import Derived.OpenShut
import Derived.ShutString
import Derived.ChangeOld
import Derived.Below
import Derived.SizedLaws
namespace Go.Proofs.Ytokmdjpaegaojaa.seqAlone
open Go.ChangeShapes Go.WideShapes Go.ChangeAt Go.RowKit
open Go.ChangeMaps (open_string shut_string)
attribute [local irreducible] Calls
set_option linter.unusedVariables false
theorem own : ownKnob Try.prog.godebug = none := by kernel_rfl
theorem laidOut : laidOutB Try.prog = true := by kernel_rfl
set_option maxRecDepth 100000 in
theorem lifted (os : Os) (started : os.Started) (H : Type) (enc : TypeId × Value → H) :
    ReturnsInHanded {} Try.checked os 4 .any (Rows.seqAloneSpec.pre6 enc Try.prog Try.f4 Rows.seqAloneRow.domain false) (Rows.seqAloneSpec.post enc Try.prog Try.f4 false true false false) := by
  refine returnsInHanded_of_change_sized (C := Try.checked) own started (by kernel_rfl) Try.func4
    (ChangeSpec.witness6 (enc := enc) (C := Try.checked) false ⟨#[], #[.slice none 0 0, .slice none 0 0, .slice none 0 0], []⟩ 8 (by kernel_rfl) (by kernel_rfl) (by kernel_rfl) (by kernel_rfl)) ?_
  intro W base args ds gs before hval0 hW hcnd hsz0 _
  have hsz : (DataW.weightsEach Try.prog (Try.f4.params.toList ++ Rows.seqAloneSpec.plain.varTypes Try.prog) (ds ++ gs)).all (· ≤ reachBytes) = true := hsz0
  have hval : ∀ (j : Nat) t v, Try.f4.params[j]? = some t → args[j]? = some v → Value.okWide Try.prog W .any base t v := hval0
  have hW' := hW
  obtain ⟨p, q, hA0, hV, rfl, hfz, hnd⟩ := hW
  have hA : DataW.TrodAll enc Try.prog W 0 (fun _ => true) true Try.f4.params.toList args.toList ds p := hA0
  rw [Try.params4] at hA hval hsz
  obtain ⟨v0, vs0, d0, ds0, p0, q0, hargs, rfl, rfl, h0, r0⟩ := trodAll_cons hA
  obtain ⟨v1, vs1, d1, ds1, p1, q1, rfl, rfl, rfl, h1, r1⟩ := trodAll_cons r0
  obtain ⟨v2, vs2, d2, ds2, p2, q2, rfl, rfl, rfl, h2, r2⟩ := trodAll_cons r1
  obtain ⟨rfl, rfl, rfl⟩ := trodAll_nil r2
  obtain rfl : args = #[v0, v1, v2] := by cases args; simp_all
  obtain ⟨rfl, rfl⟩ := trodVars_none hV
  obtain ⟨a0, len0, cap0, rfl⟩ := okWide_slice Try.underlying22 (hval 0 22 v0 rfl rfl)
  have k0 := h0
  have lt0 : ∀ x ∈ p0, x.block < W.heap.size := by obtain ⟨m, hm⟩ := k0; exact DataW.trod_lt m _ _ _ hm
  obtain ⟨l0, rfl, ml0, vw0, nil0, mi0⟩ : ∃ l : List ((Option Addr × Nat) × List Seq.Ins), len0 = l.length ∧ l.length ≤ maxLen ∧ Seq.Codes W (fun k => k < W.heap.size) a0 l ∧ (a0 = none → l.length = 0) ∧ ∀ q ∈ l, q.2.length ≤ maxLen := by
    obtain ⟨fuel, hf⟩ := h0
    obtain ⟨ao, cap, l, hcs, h1, h2, h3, h4⟩ := Seq.open_codes Try.underlying22 Try.underlying40 Try.underlying42 (by kernel_rfl) (by kernel_rfl) (by kernel_rfl) (by kernel_rfl) (by decide) hf
    simp [Value.cells] at hcs
    obtain ⟨rfl, rfl, rfl⟩ := hcs
    exact ⟨l, rfl, h1, h2, h3, h4⟩
  obtain ⟨a1, len1, cap1, rfl⟩ := okWide_slice Try.underlying23 (hval 1 23 v1 rfl rfl)
  have k1 := h1
  have lt1 : ∀ x ∈ p1, x.block < W.heap.size := by obtain ⟨m, hm⟩ := k1; exact DataW.trod_lt m _ _ _ hm
  obtain ⟨l1, rfl, ml1, wf1, vw1, nil1⟩ : ∃ l : List Int, len1 = l.length ∧ l.length ≤ maxLen ∧ (∀ n ∈ l, (Lit.int .i64 n).wf = true) ∧ Vw W 1 (fun k => k < W.heap.size) a1 l.length (ints l) ∧ (a1 = none → l.length = 0) := by
    obtain ⟨fuel, hf⟩ := h1
    obtain ⟨ao, cap, l, hcs, h1, h2, h3, h4, h5⟩ := open_nums Try.underlying23 Try.underlying2 (by kernel_rfl) hf
    simp [Value.cells] at hcs
    obtain ⟨rfl, rfl, rfl⟩ := hcs
    exact ⟨l, rfl, by omega, h3, h4, h5⟩
  obtain ⟨a2, len2, cap2, rfl⟩ := okWide_slice Try.underlying24 (hval 2 24 v2 rfl rfl)
  have k2 := h2
  have lt2 : ∀ x ∈ p2, x.block < W.heap.size := by obtain ⟨m, hm⟩ := k2; exact DataW.trod_lt m _ _ _ hm
  obtain ⟨l2, rfl, ml2, wf2, vw2, nil2⟩ : ∃ l : List Int, len2 = l.length ∧ l.length ≤ maxLen ∧ (∀ n ∈ l, (Lit.int .i64 n).wf = true) ∧ Vw W 1 (fun k => k < W.heap.size) a2 l.length (ints l) ∧ (a2 = none → l.length = 0) := by
    obtain ⟨fuel, hf⟩ := h2
    obtain ⟨ao, cap, l, hcs, h1, h2, h3, h4, h5⟩ := open_nums Try.underlying24 Try.underlying3 (by kernel_rfl) hf
    simp [Value.cells] at hcs
    obtain ⟨rfl, rfl, rfl⟩ := hcs
    exact ⟨l, rfl, by omega, h3, h4, h5⟩
  clear hA0 hval0 hsz0
  have hw := Seq.alone_walk a0 a1 a2 cap0 cap1 cap2 l0 l1 l2 W vw0 vw1 nil1 vw2 (by unfold maxLen at ml0; omega) (by unfold maxLen at ml1; omega) (by unfold maxLen at ml2; omega)
  refine (hw).mono fun e W' ⟨he, bel⟩ => ?_
  subst he
  exact ⟨_, rfl, _, _, _, [], _, [], hW', trodAll_mk1 (shut_bool Try.underlying4 _), (trodAll_cons_mk (Below.trod laidOut (by kernel_rfl) (of_decide_eq_true (by kernel_rfl)) k0 bel lt0) (trodAll_cons_mk (Below.trod laidOut (by kernel_rfl) (of_decide_eq_true (by kernel_rfl)) k1 bel lt1) (trodAll_cons_mk (Below.trod laidOut (by kernel_rfl) (of_decide_eq_true (by kernel_rfl)) k2 bel lt2) trodAll_mk0))), rfl, bel.frame _, fun h => by cases h⟩
theorem over : Rows.seqAloneRow.holds Try.pinned (OpenSpec.ofChange Rows.seqAloneSpec) :=
  OpenClaim.holds_of_wide 4 Try.f4 rfl rfl rfl rfl rfl rfl rfl ⟨rfl, rfl, rfl, rfl, rfl⟩ rfl rfl rfl rfl rfl (by kernel_rfl) Try.func4 (by kernel_rfl)
    (of_decide_eq_true (by kernel_rfl)) (by unfold Func.isWrapper; first | (rw [if_pos (by decide +kernel)]; kernel_rfl) | (rw [if_neg (by decide +kernel)]; exact ⟨rfl, rfl⟩))
    (fun os started H enc _ => lifted os started H enc)
end Go.Proofs.Ytokmdjpaegaojaa.seqAlone
namespace Go.Proofs.Ytokmdjpaegaojaa
theorem seqAlone_holds : Rows.SeqAloneSaid := seqAlone.over
#print axioms seqAlone_holds
end Go.Proofs.Ytokmdjpaegaojaa
