/-
  The row of TwinBoth: whatever the input, it answers true, and the input reads as it did.
-/
import Derived.Test.YtbfeopakmjcapaaRows
import Derived.Test.YtbfeopakmjcapaaOpenB
import Derived.Test.YtbfeopakmjcapaaOpenP
import Derived.Test.YtbfeopakmjcapaaLawTb
import Derived.WalkKit
import Derived.ProofKit
import Derived.OpenShut
import Derived.ShutString
import Derived.ChangeOld
import Derived.Below
import Derived.SizedLaws
namespace Go.Proofs.Ytbfeopakmjcapaa.twinBoth
open Go.ChangeShapes Go.WideShapes Go.ChangeAt Go.RowKit
open Go.ChangeMaps (open_string shut_string)
attribute [local irreducible] Calls
set_option linter.unusedVariables false
theorem own : ownKnob Try.prog.godebug = none := by kernel_rfl
theorem laidOut : laidOutB Try.prog = true := by kernel_rfl
set_option maxRecDepth 100000 in
theorem lifted (os : Os) (started : os.Started) (H : Type) (enc : TypeId × Value → H) :
    ReturnsInHanded {} Try.checked os 9 .any (Rows.twinBothSpec.pre6 enc Try.prog Try.f9 Rows.twinBothRow.domain false) (Rows.twinBothSpec.post enc Try.prog Try.f9 false true false false) := by
  refine returnsInHanded_of_change_sized (C := Try.checked) own started (by kernel_rfl) Try.func9
    (ChangeSpec.witness6 (enc := enc) (C := Try.checked) false ⟨#[], #[.agg #[.slice none 0 0,.slice none 0 0,.int .i64 0,.int .i64 0,.slice none 0 0,.slice none 0 0,.int .i64 0,.int .i64 0,.slice none 0 0], .slice none 0 0], []⟩ 8 (by kernel_rfl) (by kernel_rfl) (by kernel_rfl) (by kernel_rfl)) ?_
  intro W base args ds gs before hval0 hW hcnd hsz0 _
  have hsz : (DataW.weightsEach Try.prog (Try.f9.params.toList ++ Rows.twinBothSpec.plain.varTypes Try.prog) (ds ++ gs)).all (· ≤ reachBytes) = true := hsz0
  have hval : ∀ (j : Nat) t v, Try.f9.params[j]? = some t → args[j]? = some v → Value.okWide Try.prog W .any base t v := hval0
  have hW' := hW
  obtain ⟨p, q, hA0, hV, rfl, hfz, hnd⟩ := hW
  have hA : DataW.TrodAll enc Try.prog W 0 (fun _ => true) true Try.f9.params.toList args.toList ds p := hA0
  rw [Try.params9] at hA hval hsz
  obtain ⟨v0, vs0, d0, ds0, p0, q0, hargs, rfl, rfl, h0, r0⟩ := trodAll_cons hA
  obtain ⟨v1, vs1, d1, ds1, p1, q1, rfl, rfl, rfl, h1, r1⟩ := trodAll_cons r0
  obtain ⟨rfl, rfl, rfl⟩ := trodAll_nil r1
  obtain rfl : args = #[v0, v1] := by cases args; simp_all
  obtain ⟨rfl, rfl⟩ := trodVars_none hV
  have k0 := h0
  have lt0 : ∀ x ∈ p0, x.block < W.heap.size := by obtain ⟨m, hm⟩ := k0; exact DataW.trod_lt m _ _ _ hm
  have ok0 := (hval 0 69 v0 rfl rfl)
  obtain ⟨a1, len1, cap1, rfl⟩ := okWide_slice Try.underlying27 (hval 1 27 v1 rfl rfl)
  have k1 := h1
  have lt1 : ∀ x ∈ p1, x.block < W.heap.size := by obtain ⟨m, hm⟩ := k1; exact DataW.trod_lt m _ _ _ hm
  obtain ⟨l1, rfl, ml1, wf1, vw1, nil1⟩ : ∃ l : List (List Int), len1 = l.length ∧ l.length ≤ maxLen ∧ (∀ r ∈ l, r.length = 2 ∧ ∀ n ∈ r, (Lit.int .i64 n).wf = true) ∧ Vw W 2 (fun k => k < W.heap.size) a1 l.length (ints l.flatten) ∧ (a1 = none → l.length = 0) := by
    obtain ⟨fuel, hf⟩ := h1
    obtain ⟨ao, cap, l, hcs, h1, h2, h3, h4, h5⟩ := open_rows Try.underlying27 Try.underlying41 (by kernel_rfl) (by kernel_rfl) (by kernel_rfl) (by decide) hf
    simp [Value.cells] at hcs
    obtain ⟨rfl, rfl, rfl⟩ := hcs
    exact ⟨l, rfl, by omega, h3, h4, h5⟩
  clear hA0 hval0 hsz0
  obtain ⟨cs0, rfl, sz0⟩ := okWide_struct Try.underlying69 ok0
  have kk0 := k0
  obtain ⟨fuel0, hf0⟩ := kk0
  obtain ⟨ao0, aa0, b1, b2, b3, co0, ac0, e1, e2, e3, qs0, al0, wd0, lk0, rm0, wn0, ma, mb, rows, hcs0, ql0, cv0, qm0, am0, av0, n1, u1, z1, n2, u2, z2, n3, r3, u3⟩ := Seq.pair_in hf0
  obtain rfl : cs0 = #[.slice ao0 qs0.length co0, .slice aa0 al0.length ac0, .int .i64 wd0, .int .i64 lk0, .slice b1 ma.length e1, .slice b2 mb.length e2, .int .i64 rm0, .int .i64 wn0, .slice b3 rows.length e3] := by simpa [Value.cells] using hcs0
  clear hf0 hcs0
  have hw := (Sp.both_walk ao0 aa0 b1 b2 b3 a1 co0 ac0 e1 e2 e3 cap1 qs0 al0 wd0 lk0 rm0 wn0 ma mb (rows.map tup2) (l1.map tup2) W cv0 av0 (by unfold maxLen at *; omega) (by unfold maxLen at *; omega) (fun q hq => by have := qm0 q hq; unfold maxLen at this; omega) u1 z1 (by unfold maxLen at *; omega) u2 z2 (by unfold maxLen at *; omega) (by rw [List.length_map, Sp.dos_of_rows rows r3]; exact u3) (by rw [List.length_map]; unfold maxLen at n3; omega) (by rw [List.length_map, Sp.dos_of_rows l1 (fun r hr => (wf1 r hr).1)]; exact vw1) (by rw [List.length_map]; unfold maxLen at ml1; omega))
  rw [List.length_map, List.length_map] at hw
  have hw := (hw).mono (fun e w' h => (⟨h.1, h.2.below (Nat.le_refl _) (fun _ _ h => h)⟩ : e = .returned (.bool true) ∧ Below W.heap.size W w'))
  refine (hw).mono fun e W' ⟨he, bel⟩ => ?_
  subst he
  exact ⟨_, rfl, _, _, _, [], _, [], hW', trodAll_mk1 (shut_bool Try.underlying4 _), (trodAll_cons_mk (Below.trod laidOut (by kernel_rfl) (of_decide_eq_true (by kernel_rfl)) k0 bel lt0) (trodAll_cons_mk (Below.trod laidOut (by kernel_rfl) (of_decide_eq_true (by kernel_rfl)) k1 bel lt1) trodAll_mk0)), rfl, bel.frame _, fun h => by cases h⟩
theorem over : Rows.twinBothRow.holds Try.pinned (OpenSpec.ofChange Rows.twinBothSpec) :=
  OpenClaim.holds_of_wide 9 Try.f9 rfl rfl rfl rfl rfl rfl rfl ⟨rfl, rfl, rfl, rfl, rfl⟩ rfl rfl rfl rfl rfl (by kernel_rfl) Try.func9 (by kernel_rfl)
    (of_decide_eq_true (by kernel_rfl)) (by unfold Func.isWrapper; first | (rw [if_pos (by decide +kernel)]; kernel_rfl) | (rw [if_neg (by decide +kernel)]; exact ⟨rfl, rfl⟩))
    (fun os started H enc _ => lifted os started H enc)
end Go.Proofs.Ytbfeopakmjcapaa.twinBoth
namespace Go.Proofs.Ytbfeopakmjcapaa
theorem twinBoth_holds : Rows.TwinBothSaid := twinBoth.over
#print axioms twinBoth_holds
end Go.Proofs.Ytbfeopakmjcapaa
