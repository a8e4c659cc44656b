/-
  What lex.skip answers: a text without the blanks and notes that it begins with.
-/
import Derived.Test.YtfiebpcambdbaaaDoorLexW
set_option linter.unusedVariables false
set_option linter.unusedSimpArgs false
set_option maxHeartbeats 4000000
set_option maxRecDepth 8000
namespace Go.Proofs.YtfiebpcambdbaaaDoor
open Go.RowKit Go.Proofs.YtfiebpcambdbaaaDoor.Lex
attribute [local irreducible] wpStill wpList Calls CallsIn

theorem trim_is (u : B) (w : World) : Calls Tryd.prog 26 #[.string ⟨u.toArray⟩, .string ⟨#[32, 9, 10, 13]⟩] w fun e w' => e = .returned (.string ⟨(u.dropWhile blankB).toArray⟩) ∧ Fr (fun _ => False) w w' := by
  have h : Calls Tryd.prog 26 #[.string ⟨u.toArray⟩, .string ⟨#[32, 9, 10, 13]⟩] w _ := Any.strings_TrimLeft_laid Tryd.lays161 (by kernel_rfl) ⟨u.toArray⟩ ⟨#[32, 9, 10, 13]⟩ w (by decide) (ascii_of_all (by decide))
  refine h.mono ?_
  rintro e w' ⟨rfl, hb⟩
  exact ⟨by rfl, Fr.of_below0 hb⟩
theorem hasp_is (u p : B) (w : World) : Calls Tryd.prog 27 #[.string ⟨u.toArray⟩, .string ⟨p.toArray⟩] w fun e w' => e = .returned (.bool (p.isPrefixOf u)) ∧ w' = w := by
  have h := Tryd.strings_HasPrefix ⟨u.toArray⟩ ⟨p.toArray⟩ w
  refine h.mono ?_
  rintro e w' ⟨rfl, hb⟩
  exact ⟨by simp [Lib.hasPrefix], hb⟩

def strLen : Value → Nat
  | .string s => s.size
  | _ => 0
theorem skip_is (s : B) (w : World) (hs : s.length ≤ 1000000) : Calls Tryd.prog 18 #[.string ⟨s.toArray⟩] w fun e w' => e = .returned (.string ⟨(skipB s).toArray⟩) ∧ Fr (fun _ => False) w w' := by
  go_enter Tryd.func18, Tryd.ntmps18
  go_wp2_with (first | still_step | (with_reducible first | refine wpStill_nil ?_ | refine Flow.Both.mk ?_ ?_ | exact True.intro) | (with_reducible refine Flow.same_mk rfl rfl rfl ?_; go_simp; done) | (with_reducible exact Flow.same_un rfl rfl rfl) | (refine Flow.region_still mixed ?hB ?_; (case hB => decide +kernel)))
  go_loopw [0] (fun v wr => ∃ u : B, v = .string ⟨u.toArray⟩ ∧ u.length ≤ s.length ∧ skipB u = skipB s ∧ Fr (fun _ => False) w wr) (fun v _ => strLen v)
  case atStart => exact ⟨s, rfl, Nat.le_refl _, rfl, Fr.refl _ _⟩
  case round =>
    obtain ⟨u, rfl, hle, hsk, hf⟩ := hrel
    have ht := trim_is u
    have hp := hasp_is (u.dropWhile blankB) [47, 47]
    have hc := fun w => cut_is (u.dropWhile blankB) w (by have := dropWhile_le blankB u; omega)
    have HF := hid hf
    have HSK := hid hsk
    cases hn : isNote (u.dropWhile blankB) with
    | false =>
      rw [show ([47, 47] : B).isPrefixOf (u.dropWhile blankB) = false from hn] at hp
      have e := skipB_else hn
      rw [hsk] at e
      generalize u.dropWhile blankB = x at *
      have HE := hid e
      have HT := hid ht
      have HP := hid hp
      clear ht hp hc hf hsk hn e
      go_wp2_with (first | (go_at_call 26; refine (HT.out _).mono ?_; rintro e w1 ⟨rfl, hf1⟩; have HF1 := hid hf1; clear hf1) | (go_at_call 27; refine (HP.out _).mono ?_; rintro e w2 ⟨rfl, rfl⟩) | still_step | (with_reducible first | refine wpStill_nil ?_ | refine Flow.Both.mk ?_ ?_ | exact True.intro) | (with_reducible refine Flow.same_mk rfl rfl rfl ?_; go_simp; done) | (with_reducible exact Flow.same_un rfl rfl rfl) | (refine Flow.region_still mixed ?hB ?_; (case hB => decide +kernel)))
      go_ret
      rw [HE.out]
      exact ⟨rfl, HF.out.trans HF1.out (fun _ _ h => h)⟩
    | true =>
      rw [show ([47, 47] : B).isPrefixOf (u.dropWhile blankB) = true from hn] at hp
      have e := skipB_note hn
      have h1 := afterNl_lt hn
      have h2 := dropWhile_le blankB u
      rw [hsk] at e
      generalize afterNl (u.dropWhile blankB) = y at *
      generalize u.dropWhile blankB = x at *
      have HT := hid ht
      have HP := hid hp
      have HC := hid hc
      have HE := hid e
      clear ht hp hc hf hsk hn e
      go_wp2_with (first | (go_at_call 26; refine (HT.out _).mono ?_; rintro e w1 ⟨rfl, hf1⟩; have HF1 := hid hf1; clear hf1) | (go_at_call 27; refine (HP.out _).mono ?_; rintro e w2 ⟨rfl, rfl⟩) | (go_at_call 28; refine (HC.out _).mono ?_; rintro e w3 ⟨⟨v, b, rfl⟩, hf3⟩; have HF3 := hid hf3; clear hf3) | still_step | (with_reducible first | refine wpStill_nil ?_ | refine Flow.Both.mk ?_ ?_ | exact True.intro) | (with_reducible refine Flow.same_mk rfl rfl rfl ?_; go_simp; done) | (with_reducible exact Flow.same_un rfl rfl rfl) | (refine Flow.region_still mixed ?hB ?_; (case hB => decide +kernel)))
      go_roundw
      case rel => exact ⟨y, rfl, by omega, HE.out.symm, (HF.out.trans HF1.out (fun _ _ h => h)).trans HF3.out (fun _ _ h => h)⟩
      case measure =>
        simp only [strLen, mk_size]
        omega
end Go.Proofs.YtfiebpcambdbaaaDoor
