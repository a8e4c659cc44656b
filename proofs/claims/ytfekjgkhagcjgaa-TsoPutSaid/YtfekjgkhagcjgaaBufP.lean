/-
  Clones of whole numbers; memory behind stores that wait, in plain Lean; cells of waiting stores.
-/
import Derived.Test.YtfekjgkhagcjgaaBuf2
namespace Go.Proofs.Ytfekjgkhagcjgaa
open Go.RowKit
attribute [local irreducible] wpStill wpList Calls CallsIn

theorem infoI64 : (Try.prog.info? 2).map (fun i => (i.zero, i.size, i.bytes)) = some (some (.int .i64 0), 1, 8) := by kernel_rfl
set_option maxHeartbeats 400000 in
/-- slices.Clone: a row of its own; nil of nil. -/
theorem clone_int (R : Nat → Prop) (ao : Option Addr) (n cap : Nat) (cs : List Value) (w : World) (hv : Vw w 1 R ao n cs) (hnil : ao = none → n = 0) (h1 : ∀ u ∈ cs, u.oneCell' = true) (hb : n * 8 ≤ 140737488355328) :
    Calls Try.prog 54 #[.slice ao n cap] w fun e w' => ∃ ao' cap', e = .returned (.slice ao' n cap') ∧ OwnAt w' 2 1 (fun k => w.heap.size ≤ k) ao' n cap' cs ∧ Fr (fun _ => False) w w' ∧ (ao = none → ao' = none) := by
  obtain ⟨i0, hi, hz0, hz1, hz2⟩ := info_parts infoI64
  have hen := fun (w : World) (a : Option Addr) (n c n' c' : Nat) => Lib.run_eql_slice_nil (P := Try.prog) w 26 2 a n c n' c' Try.underlying26
  cases ao with
  | none =>
    have hn := hnil rfl
    subst hn
    obtain rfl : cs = [] := List.eq_nil_of_length_eq_zero (by simpa using hv.1)
    go_enter Try.func54, Try.ntmps54
    go_wp2
    go_ret
    exact ⟨none, 0, rfl, OwnAt.nil _ _ _ _ _, Fr.refl _ _, by simp⟩
  | some ad =>
    have HV := hid hv
    have H1 := hid h1
    have HB := hid hb
    clear hv h1 hb hnil
    go_enter Try.func54, Try.ntmps54
    go_wp2_with (at_builtin; refine wpList_append_Own _ rfl (.tmp 5) (.tmp 6) 26 rfl 2 i0 (.int .i64 0) 1 8 Try.underlying26 hi hz0 hz1 hz2 rfl (by decide) (fun k => w.heap.size ≤ k) R (some ⟨w.heap.size, 0, none⟩) 0 0 [] rfl (OwnAt.nil _ _ _ _ _) (some ad) n cap cs rfl (HV.out.fr (S := fun _ => False) (by (repeat' (first | with_reducible exact Fr.refl _ _ | with_reducible apply Fr.alloc | with_reducible apply Fr.drew | with_reducible apply Fr.drewN | (with_reducible refine Fr.setCell ?_ ?_ _)))) (fun _ _ h => h)) H1.out ?b1 ?b2 ?grow)
    case b1 => unfold maxLen; have := HB.out; omega
    case b2 => have := HB.out; omega
    case grow =>
      intro ao' cap' w1 ho1 hf1
      have HO1 := hid ho1
      have HF1 := hid hf1
      clear ho1 hf1
      go_wp2
      go_ret
      refine ⟨ao', cap', rfl, HO1.out.mono (fun k _ h => ?_), ?_, by simp⟩
      · first | omega | (simp at h; omega)
      · have h0 : Fr (fun _ => False) w (w.alloc (.cells #[] 2)) := by (repeat' (first | with_reducible exact Fr.refl _ _ | with_reducible apply Fr.alloc | with_reducible apply Fr.drew | with_reducible apply Fr.drewN | (with_reducible refine Fr.setCell ?_ ?_ _)))
        exact h0.trans HF1.out (fun k hk h => by omega)


/-- Memory with a word that has something; others are nothing. -/
def putL (mem : List Int) (e : Int × Int) : List Int := if 0 ≤ e.1 ∧ e.1 < mem.length then mem.set e.1.toNat e.2 else mem
def ontoL (mem : List Int) (l : List (Int × Int)) : List Int := l.foldl putL mem
theorem putL_length (mem : List Int) (e : Int × Int) : (putL mem e).length = mem.length := by unfold putL; split <;> simp
theorem ontoL_length (l : List (Int × Int)) : ∀ mem : List Int, (ontoL mem l).length = mem.length := by
  induction l with
  | nil => intro mem; rfl
  | cons e l ih => intro mem; exact (ih _).trans (putL_length _ _)
theorem ontoL_snoc (mem : List Int) (l : List (Int × Int)) (e : Int × Int) : ontoL mem (l ++ [e]) = putL (ontoL mem l) e := by simp [ontoL]
theorem ent_get (l : List (Int × Int)) : ∀ (k : Nat) (h : k < l.length), (ent l)[k * 2]? = some (.int .i64 l[k].1) ∧ (ent l)[k * 2 + 1]? = some (.int .i64 l[k].2) := by
  induction l with
  | nil => intro k h; simp at h
  | cons e l ih =>
    intro k h
    cases k with
    | zero => simp [ent]
    | succ k =>
      have := ih k (by simpa using h)
      rw [Nat.add_mul]
      simpa [ent] using this

end Go.Proofs.Ytfekjgkhagcjgaa
