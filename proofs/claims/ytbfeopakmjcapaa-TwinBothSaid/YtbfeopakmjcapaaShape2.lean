/-
  What may be an image: codes, areas, the whole.
-/
import Derived.Test.YtbfeopakmjcapaaShape
set_option linter.unusedVariables false
set_option linter.unusedSimpArgs false
set_option maxHeartbeats 4000000
set_option maxRecDepth 8000
namespace Go.Proofs.Ytbfeopakmjcapaa.Tso
open Go.RowKit Go.Proofs.Ytbfeopakmjcapaa.Seq
attribute [local irreducible] wpStill wpList Calls CallsIn

theorem Tells.yes {p : Prop} {w w' : World} {e : Ending} (h : e = .returned (.bool true)) (hp : p) (hf : Fr (fun _ => False) w w') : Tells p w e w' := ⟨true, h, fun _ => hp, hf⟩
theorem Tells.no {p : Prop} {w w' : World} {e : Ending} (h : e = .returned (.bool false)) (hf : Fr (fun _ => False) w w') : Tells p w e w' := ⟨false, h, fun h => absurd h (by decide), hf⟩

theorem check_is (R : Nat → Prop) (ao : Option Addr) (cap : Nat) (c : List Ins) (locks : Int) (w : World) (hv : Vw w 7 R ao c.length (codeC c)) (hn : ao = none → c.length = 0) (hl : c.length ≤ 9223372036854775807) :
    Calls Try.prog 51 #[.slice ao c.length cap, .int .i64 16, .int .i64 locks] w fun e w' => Tells (∀ i ∈ c, insOk c.length locks i) w e w' := by
  have HV := hid hv
  obtain ⟨L, hL⟩ : ∃ L, L = c.length := ⟨_, rfl⟩
  have HL := hid hL
  rw [← hL] at hl hn
  rw [← hL]
  clear hv hL
  go_enter Try.func51, Try.ntmps51
  by_cases h0 : L < 1
  · go_wp2_with (first | still_step | (with_reducible first | refine wpStill_nil ?_ | refine Flow.Both.mk ?_ ?_ | exact True.intro) | (with_reducible refine Flow.same_mk rfl rfl rfl ?_; go_simp; done) | (with_reducible exact Flow.same_un rfl rfl rfl) | (refine Flow.region_still mixed ?hB ?_; (case hB => decide +kernel)))
    go_ret
    exact Tells.no rfl (Fr.refl _ _)
  by_cases h1 : 4096 < L
  · go_wp2_with (first | still_step | (with_reducible first | refine wpStill_nil ?_ | refine Flow.Both.mk ?_ ?_ | exact True.intro) | (with_reducible refine Flow.same_mk rfl rfl rfl ?_; go_simp; done) | (with_reducible exact Flow.same_un rfl rfl rfl) | (refine Flow.region_still mixed ?hB ?_; (case hB => decide +kernel)))
    go_ret
    exact Tells.no rfl (Fr.refl _ _)
  go_wp2_with (first | still_step | (with_reducible first | refine wpStill_nil ?_ | refine Flow.Both.mk ?_ ?_ | exact True.intro) | (with_reducible refine Flow.same_mk rfl rfl rfl ?_; go_simp; done) | (with_reducible exact Flow.same_un rfl rfl rfl) | (refine Flow.region_still mixed ?hB ?_; (case hB => decide +kernel)))
  go_loopw [7] (fun i wr => ∃ k : Nat, k ≤ L ∧ i = .int .i64 k ∧ (∀ x ∈ c.take k, insOk L locks x) ∧ Fr (fun _ => False) w wr) (fun i _ => L - (intOf i).toNat)
  case atStart => exact ⟨0, Nat.zero_le _, rfl, fun x hx => by simp at hx, Fr.refl _ _⟩
  case round =>
    obtain ⟨k, hk, rfl, hall, hf⟩ := hrel
    have HF := hid hf
    have HALL := hid hall
    clear hf hall
    have hne : codeC c ≠ [] := fun e => by have := codeC_length c; rw [e] at this; simp at this; have := HL.out; omega
    obtain ⟨rc, offc, rfl, _, hc⟩ := (HV.out.fr HF.out (fun _ _ h => h)).cell hne
    by_cases hlt : k < L
    · have hkl : k < c.length := by have := HL.out; omega
      have hj : c[k]? = some c[k] := by simp [hkl]
      have htk : c.take (k + 1) = c.take k ++ [c[k]] := by rw [List.take_succ_eq_append_getElem hkl]
      generalize c[k] = ins at *
      obtain ⟨ik, iop, id, ia, ib, im, ito⟩ := ins
      have q0 := hc (k * 7) _ (codeC_get c k _ hj 0 _ rfl)
      have q1 : wr.cell? ⟨rc, offc + k * 7 + 1, none⟩ = _ := hc (k * 7 + 1) _ (codeC_get c k _ hj 1 _ rfl)
      have q2 : wr.cell? ⟨rc, offc + k * 7 + 2, none⟩ = _ := hc (k * 7 + 2) _ (codeC_get c k _ hj 2 _ rfl)
      have q3 : wr.cell? ⟨rc, offc + k * 7 + 3, none⟩ = _ := hc (k * 7 + 3) _ (codeC_get c k _ hj 3 _ rfl)
      have q4 : wr.cell? ⟨rc, offc + k * 7 + 4, none⟩ = _ := hc (k * 7 + 4) _ (codeC_get c k _ hj 4 _ rfl)
      have q5 : wr.cell? ⟨rc, offc + k * 7 + 5, none⟩ = _ := hc (k * 7 + 5) _ (codeC_get c k _ hj 5 _ rfl)
      have q6 : wr.cell? ⟨rc, offc + k * 7 + 6, none⟩ = _ := hc (k * 7 + 6) _ (codeC_get c k _ hj 6 _ rfl)
      have hrl := World.block_lt_of_cell? _ _ q0
      dsimp only at hrl q0
      have HTK := hid htk
      clear hj hc hne htk
      go_wp2_with (first | still_step | (with_reducible first | refine wpStill_nil ?_ | refine Flow.Both.mk ?_ ?_ | exact True.intro) | (with_reducible refine Flow.same_mk rfl rfl rfl ?_; go_simp; done) | (with_reducible exact Flow.same_un rfl rfl rfl) | (refine Flow.region_still mixed ?hB ?_; (case hB => decide +kernel)))
      go_at_call 69
      refine (one_is ik iop id ia ib im ito L locks _).mono ?_
      rintro e w2 ⟨b, rfl, hb, hf2⟩
      have HF2 := hid (HF.out.trans (show Fr (fun _ => False) wr w2 from by first | exact hf2 | exact fr_ud hf2) (fun _ _ h => h))
      have HB := hid hb
      clear hf2 hb q0 q1 q2 q3 q4 q5 q6
      cases b with
      | false =>
        go_wp2_with (first | still_step | (with_reducible first | refine wpStill_nil ?_ | refine Flow.Both.mk ?_ ?_ | exact True.intro) | (with_reducible refine Flow.same_mk rfl rfl rfl ?_; go_simp; done) | (with_reducible exact Flow.same_un rfl rfl rfl) | (refine Flow.region_still mixed ?hB ?_; (case hB => decide +kernel)))
        go_ret
        exact Tells.no rfl HF2.out
      | true =>
        have hins := HB.out rfl
        have hall2 : ∀ x ∈ c.take (k + 1), insOk L locks x := by
          intro x hx
          rw [HTK.out] at hx
          rcases List.mem_append.1 hx with hx | hx
          · exact HALL.out x hx
          · obtain rfl := List.mem_singleton.1 hx
            exact hins
        have HA2 := hid hall2
        clear hins hall2
        go_wp2_with (first | still_step | (with_reducible first | refine wpStill_nil ?_ | refine Flow.Both.mk ?_ ?_ | exact True.intro) | (with_reducible refine Flow.same_mk rfl rfl rfl ?_; go_simp; done) | (with_reducible exact Flow.same_un rfl rfl rfl) | (refine Flow.region_still mixed ?hB ?_; (case hB => decide +kernel)))
        go_roundw
        case rel => exact ⟨k + 1, by omega, by go_num, HA2.out, HF2.out⟩
        case measure => simp [intOf]; omega
    · obtain rfl : k = L := by omega
      have hall := HALL.out
      rw [List.take_of_length_le (by have := HL.out; omega)] at hall
      obtain ⟨j, rfl⟩ : ∃ j, k = j + 1 := ⟨k - 1, by omega⟩
      have hjl : j < c.length := by have := HL.out; omega
      have hj : c[j]? = some c[j] := by simp [hjl]
      have q0 := hc (j * 7) _ (codeC_get c j _ hj 0 _ rfl)
      have hrl := World.block_lt_of_cell? _ _ q0
      dsimp only at hrl q0
      generalize c[j].k = ik at *
      have HA2 := hid hall
      clear hj hc hne hall
      go_wp2_with (first | still_step | (with_reducible first | refine wpStill_nil ?_ | refine Flow.Both.mk ?_ ?_ | exact True.intro) | (with_reducible refine Flow.same_mk rfl rfl rfl ?_; go_simp; done) | (with_reducible exact Flow.same_un rfl rfl rfl) | (refine Flow.region_still mixed ?hB ?_; (case hB => decide +kernel)))
      all_goals
        go_ret
        exact ⟨_, rfl, fun _ => HA2.out, HF.out⟩

/-- Areas, as cells. -/
def areaC (l : List (Int × Int × Bool)) : List Value := l.flatMap fun a => [.int .i64 a.1, .int .i64 a.2.1, .bool a.2.2]
theorem areaC_length (l : List (Int × Int × Bool)) : (areaC l).length = l.length * 3 := by
  induction l with
  | nil => rfl
  | cons e l ih => simp [areaC, Nat.add_mul] at ih ⊢; omega
theorem areaC_get (l : List (Int × Int × Bool)) : ∀ (j : Nat) (a : Int × Int × Bool), l[j]? = some a → (areaC l)[j * 3]? = some (.int .i64 a.1) ∧ (areaC l)[j * 3 + 1]? = some (.int .i64 a.2.1) := by
  induction l with
  | nil => intro j a h; simp at h
  | cons e l ih =>
    intro j a h
    cases j with
    | zero => simp at h; subst h; simp [areaC]
    | succ j =>
      have := ih j a (by simpa using h)
      simp only [areaC, List.flatMap_cons] at this ⊢
      rw [Nat.add_mul]
      rw [List.getElem?_append_right (by simp), List.getElem?_append_right (by simp)]
      simpa [show j * 3 + 1 * 3 - 3 = j * 3 by omega, show j * 3 + 1 * 3 + 1 - 3 = j * 3 + 1 by omega] using this

/-- Areas lie in memory. -/
def areaOk (words : Int) (x : Int × Int × Bool) : Prop := 0 ≤ x.1 ∧ 0 ≤ x.2.1 ∧ x.1 + x.2.1 ≤ words
def areasIn (words : Int) (al : List (Int × Int × Bool)) : Prop := ∀ x ∈ al, areaOk words x

theorem right_is (R : Nat → Prop) (ao : Option Addr) (cap : Nat) (l : List (Int × Int × Bool)) (words : Int) (w : World) (hv : Vw w 3 R ao l.length (areaC l)) (hl : l.length ≤ 9223372036854775807) :
    Calls Try.prog 50 #[.slice ao l.length cap, .int .i64 words] w fun e w' => Tells ((0 ≤ words ∧ words ≤ 65536) ∧ areasIn words l) w e w' := by
  have HV := hid hv
  obtain ⟨L, hL⟩ : ∃ L, L = l.length := ⟨_, rfl⟩
  have HL := hid hL
  rw [← hL] at hl
  rw [← hL]
  clear hv hL
  by_cases h0 : words < 0
  · go_enter Try.func50, Try.ntmps50
    go_wp2_with (first | still_step | (with_reducible first | refine wpStill_nil ?_ | refine Flow.Both.mk ?_ ?_ | exact True.intro) | (with_reducible refine Flow.same_mk rfl rfl rfl ?_; go_simp; done) | (with_reducible exact Flow.same_un rfl rfl rfl) | (refine Flow.region_still mixed ?hB ?_; (case hB => decide +kernel)))
    go_ret
    exact Tells.no rfl (Fr.refl _ _)
  by_cases h1 : 65536 < words
  · go_enter Try.func50, Try.ntmps50
    go_wp2_with (first | still_step | (with_reducible first | refine wpStill_nil ?_ | refine Flow.Both.mk ?_ ?_ | exact True.intro) | (with_reducible refine Flow.same_mk rfl rfl rfl ?_; go_simp; done) | (with_reducible exact Flow.same_un rfl rfl rfl) | (refine Flow.region_still mixed ?hB ?_; (case hB => decide +kernel)))
    go_ret
    exact Tells.no rfl (Fr.refl _ _)
  go_enter Try.func50, Try.ntmps50
  go_wp2_with (first | still_step | (with_reducible first | refine wpStill_nil ?_ | refine Flow.Both.mk ?_ ?_ | exact True.intro) | (with_reducible refine Flow.same_mk rfl rfl rfl ?_; go_simp; done) | (with_reducible exact Flow.same_un rfl rfl rfl) | (refine Flow.region_still mixed ?hB ?_; (case hB => decide +kernel)))
  go_loopw [5, 6] (fun s i wr => ∃ (k : Nat) (z : Int), k ≤ L ∧ i = .int .i64 k ∧ s = .int .i64 z ∧ 0 ≤ z ∧ (∀ x ∈ l.take k, areaOk words x) ∧ Fr (fun _ => False) w wr) (fun _ i _ => L - (intOf i).toNat)
  case atStart => exact ⟨0, 0, Nat.zero_le _, rfl, rfl, Int.le_refl _, fun x hx => by simp at hx, Fr.refl _ _⟩
  case round =>
    obtain ⟨k, z, hk, rfl, rfl, hz0, hall, hf⟩ := hrel
    have HF := hid hf
    have HALL := hid hall
    clear hall
    by_cases hlt : k < L
    · have hkl : k < l.length := by have := HL.out; omega
      have hne : areaC l ≠ [] := fun e => by have := areaC_length l; rw [e] at this; simp at this; omega
      obtain ⟨rc, offc, rfl, _, hc⟩ := (HV.out.fr HF.out (fun _ _ h => h)).cell hne
      have hj : l[k]? = some l[k] := by simp [hkl]
      obtain ⟨g0, g1⟩ := areaC_get l k _ hj
      have q0 := hc (k * 3) _ g0
      have q1 : wr.cell? ⟨rc, offc + k * 3 + 1, none⟩ = _ := hc (k * 3 + 1) _ g1
      have hrl := World.block_lt_of_cell? _ _ q0
      dsimp only at hrl
      have HNX := hid (show areaOk words l[k] → ∀ x ∈ l.take (k + 1), areaOk words x from fun h x hx => by
        rw [List.take_succ_eq_append_getElem hkl] at hx
        rcases List.mem_append.1 hx with hx | hx
        · exact HALL.out x hx
        · obtain rfl := List.mem_singleton.1 hx; exact h)
      generalize l[k] = ar at *
      obtain ⟨x, y, bb⟩ := ar
      dsimp only at q0 q1
      clear hj g0 g1 hc hne hf
      by_cases c1 : x < z
      · go_wp2_with (first | still_step | (with_reducible first | refine wpStill_nil ?_ | refine Flow.Both.mk ?_ ?_ | exact True.intro) | (with_reducible refine Flow.same_mk rfl rfl rfl ?_; go_simp; done) | (with_reducible exact Flow.same_un rfl rfl rfl) | (refine Flow.region_still mixed ?hB ?_; (case hB => decide +kernel)))
        go_ret
        exact Tells.no rfl (by first | exact HF.out | exact HF.out.drew | exact HF.out.drew.drew)
      by_cases c2 : y < 1
      · go_wp2_with (first | still_step | (with_reducible first | refine wpStill_nil ?_ | refine Flow.Both.mk ?_ ?_ | exact True.intro) | (with_reducible refine Flow.same_mk rfl rfl rfl ?_; go_simp; done) | (with_reducible exact Flow.same_un rfl rfl rfl) | (refine Flow.region_still mixed ?hB ?_; (case hB => decide +kernel)))
        go_ret
        exact Tells.no rfl (by first | exact HF.out | exact HF.out.drew | exact HF.out.drew.drew)
      by_cases c3 : words < x
      · go_wp2_with (first | still_step | (with_reducible first | refine wpStill_nil ?_ | refine Flow.Both.mk ?_ ?_ | exact True.intro) | (with_reducible refine Flow.same_mk rfl rfl rfl ?_; go_simp; done) | (with_reducible exact Flow.same_un rfl rfl rfl) | (refine Flow.region_still mixed ?hB ?_; (case hB => decide +kernel)))
        go_ret
        exact Tells.no rfl (by first | exact HF.out | exact HF.out.drew | exact HF.out.drew.drew)
      have ew : IntKind.i64.wrap (words - x) = wrap64 (words - x) := IntWalk.i64_left _
      by_cases c4 : wrap64 (words - x) < y
      · have c5 : IntKind.i64.wrap (words - x) < y := by rw [ew]; exact c4
        clear ew
        go_wp2_with (first | still_step | (with_reducible first | refine wpStill_nil ?_ | refine Flow.Both.mk ?_ ?_ | exact True.intro) | (with_reducible refine Flow.same_mk rfl rfl rfl ?_; go_simp; done) | (with_reducible exact Flow.same_un rfl rfl rfl) | (refine Flow.region_still mixed ?hB ?_; (case hB => decide +kernel)))
        go_ret
        exact Tells.no rfl (by first | exact HF.out | exact HF.out.drew | exact HF.out.drew.drew)
      have c5 : ¬ IntKind.i64.wrap (words - x) < y := by rw [ew]; exact c4
      have c6 : y ≤ IntKind.i64.wrap (words - x) := Int.not_lt.1 c5
      have c7 : y ≤ wrap64 (words - x) := Int.not_lt.1 c4
      clear ew
      have HN2 := hid (HNX.out ⟨by dsimp only; omega, by dsimp only; omega, by dsimp only; unfold wrap64 at c7; omega⟩)
      have hxy : x + y ≤ words := by unfold wrap64 at c7; omega
      go_wp2_with (first | still_step | (with_reducible first | refine wpStill_nil ?_ | refine Flow.Both.mk ?_ ?_ | exact True.intro) | (with_reducible refine Flow.same_mk rfl rfl rfl ?_; go_simp; done) | (with_reducible exact Flow.same_un rfl rfl rfl) | (refine Flow.region_still mixed ?hB ?_; (case hB => decide +kernel)))
      first
        | (go_roundw
           case rel => exact ⟨k + 1, _, by omega, by go_num, rfl, by first | omega | (unfold wrap64; omega) | (rw [IntWalk.i64_left]; unfold wrap64; omega), HN2.out, by first | exact HF.out | exact HF.out.drew | exact HF.out.drew.drew⟩
           case measure => simp [intOf]; omega)
        | exact ⟨⟨k + 1, _, by omega, by go_num, rfl, by first | omega | (unfold wrap64; omega) | (rw [IntWalk.i64_left]; unfold wrap64; omega), HN2.out, by first | exact HF.out | exact HF.out.drew | exact HF.out.drew.drew⟩, by simp [intOf]; omega⟩
    · obtain rfl : k = L := by omega
      have hall := HALL.out
      rw [List.take_of_length_le (by rw [← HL.out]; exact Nat.le_refl _)] at hall
      have HA := hid hall
      clear hall
      go_wp2_with (first | still_step | (with_reducible first | refine wpStill_nil ?_ | refine Flow.Both.mk ?_ ?_ | exact True.intro) | (with_reducible refine Flow.same_mk rfl rfl rfl ?_; go_simp; done) | (with_reducible exact Flow.same_un rfl rfl rfl) | (refine Flow.region_still mixed ?hB ?_; (case hB => decide +kernel)))
      go_ret
      exact Tells.yes rfl ⟨⟨by omega, by omega⟩, HA.out⟩ HF.out

def goodImg (qs : List ((Option Addr × Nat) × List Ins)) (words locks : Int) : Prop :=
  qs.length ≤ 4 ∧ 0 ≤ locks ∧ locks ≤ 8 ∧ 0 ≤ words ∧ words ≤ 65536 ∧ ∀ q ∈ qs, ∀ i ∈ q.2, insOk q.2.length locks i

theorem shape2_is (Rc Ra : Nat → Prop) (ao aa : Option Addr) (co ac : Nat) (qs : List ((Option Addr × Nat) × List Ins)) (al : List (Int × Int × Bool)) (words locks : Int) (w : World) (hc : Codes w Rc ao qs) (ha : Vw w 3 Ra aa al.length (areaC al))
    (hal : al.length ≤ 9223372036854775807) (hi : ∀ q ∈ qs, q.2.length ≤ 9223372036854775807) :
    Calls Try.prog 31 #[.agg #[.slice ao qs.length co, .slice aa al.length ac, .int .i64 words, .int .i64 locks]] w fun e w' => Tells (goodImg qs words locks ∧ areasIn words al) w e w' := by
  have HC := hid hc
  have HA := hid ha
  have HI := hid hi
  obtain ⟨L, hL⟩ : ∃ L, L = qs.length := ⟨_, rfl⟩
  have HL := hid hL
  obtain ⟨LA, hLA⟩ : ∃ LA, LA = al.length := ⟨_, rfl⟩
  have HLA := hid hLA
  rw [← hL, ← hLA]
  rw [← hLA] at hal
  clear hc ha hi hL hLA
  by_cases h0 : 4 < L
  · go_enter Try.func31, Try.ntmps31
    go_wp2_with (first | still_step | (with_reducible first | refine wpStill_nil ?_ | refine Flow.Both.mk ?_ ?_ | exact True.intro) | (with_reducible refine Flow.same_mk rfl rfl rfl ?_; go_simp; done) | (with_reducible exact Flow.same_un rfl rfl rfl) | (with_reducible refine Flow.region_flow (id := 6) [0, 1, 0, 7, 15, 0, 32, 127, 255] 128 123 [(0, none), (1, none), (2, none), (3, none), (4, none), (5, none), (6, none), (7, some []), (8, none)] mixed ?hB ?_; (case hB => decide +kernel); simp only [Flow.textOf, Flow.q1, Flow.q2, Flow.q3, Flow.q4, Flow.q5, Flow.q6, Flow.q7, Flow.q8, Flow.q9, Flow.wpFl, Flow.SameAll]) | (refine Flow.region_still mixed ?hB ?_; (case hB => decide +kernel)))
    go_ret
    exact Tells.no rfl (by (with_reducible repeat' (first | exact Fr.refl _ _ | apply Fr.alloc | apply Fr.drew | apply Fr.drewN | refine Fr.setCell ?_ ?_ _)))
  by_cases h1 : locks < 0
  · go_enter Try.func31, Try.ntmps31
    go_wp2_with (first | still_step | (with_reducible first | refine wpStill_nil ?_ | refine Flow.Both.mk ?_ ?_ | exact True.intro) | (with_reducible refine Flow.same_mk rfl rfl rfl ?_; go_simp; done) | (with_reducible exact Flow.same_un rfl rfl rfl) | (with_reducible refine Flow.region_flow (id := 6) [0, 1, 0, 7, 15, 0, 32, 127, 255] 128 123 [(0, none), (1, none), (2, none), (3, none), (4, none), (5, none), (6, none), (7, some []), (8, none)] mixed ?hB ?_; (case hB => decide +kernel); simp only [Flow.textOf, Flow.q1, Flow.q2, Flow.q3, Flow.q4, Flow.q5, Flow.q6, Flow.q7, Flow.q8, Flow.q9, Flow.wpFl, Flow.SameAll]) | (refine Flow.region_still mixed ?hB ?_; (case hB => decide +kernel)))
    go_ret
    exact Tells.no rfl (by (with_reducible repeat' (first | exact Fr.refl _ _ | apply Fr.alloc | apply Fr.drew | apply Fr.drewN | refine Fr.setCell ?_ ?_ _)))
  by_cases h2 : 8 < locks
  · go_enter Try.func31, Try.ntmps31
    go_wp2_with (first | still_step | (with_reducible first | refine wpStill_nil ?_ | refine Flow.Both.mk ?_ ?_ | exact True.intro) | (with_reducible refine Flow.same_mk rfl rfl rfl ?_; go_simp; done) | (with_reducible exact Flow.same_un rfl rfl rfl) | (with_reducible refine Flow.region_flow (id := 6) [0, 1, 0, 7, 15, 0, 32, 127, 255] 128 123 [(0, none), (1, none), (2, none), (3, none), (4, none), (5, none), (6, none), (7, some []), (8, none)] mixed ?hB ?_; (case hB => decide +kernel); simp only [Flow.textOf, Flow.q1, Flow.q2, Flow.q3, Flow.q4, Flow.q5, Flow.q6, Flow.q7, Flow.q8, Flow.q9, Flow.wpFl, Flow.SameAll]) | (refine Flow.region_still mixed ?hB ?_; (case hB => decide +kernel)))
    go_ret
    exact Tells.no rfl (by (with_reducible repeat' (first | exact Fr.refl _ _ | apply Fr.alloc | apply Fr.drew | apply Fr.drewN | refine Fr.setCell ?_ ?_ _)))
  have HX := hid (Blk.new w #[.slice ao L co, .slice aa LA ac, .int .i64 words, .int .i64 locks] 25)
  go_enter Try.func31, Try.ntmps31
  go_wp2_with (first | still_step | (with_reducible first | refine wpStill_nil ?_ | refine Flow.Both.mk ?_ ?_ | exact True.intro) | (with_reducible refine Flow.same_mk rfl rfl rfl ?_; go_simp; done) | (with_reducible exact Flow.same_un rfl rfl rfl) | (with_reducible refine Flow.region_flow (id := 6) [0, 1, 0, 7, 15, 0, 32, 127, 255] 128 123 [(0, none), (1, none), (2, none), (3, none), (4, none), (5, none), (6, none), (7, some []), (8, none)] mixed ?hB ?_; (case hB => decide +kernel); simp only [Flow.textOf, Flow.q1, Flow.q2, Flow.q3, Flow.q4, Flow.q5, Flow.q6, Flow.q7, Flow.q8, Flow.q9, Flow.wpFl, Flow.SameAll]) | (refine Flow.region_still mixed ?hB ?_; (case hB => decide +kernel)))
  go_at_call 50
  have hri := right_is Ra aa ac al words
  have hav := HA.out
  rw [← HLA.out] at hri hav
  refine (hri _ (hav.fr (S := fun _ => False) (by (with_reducible repeat' (first | exact Fr.refl _ _ | apply Fr.alloc | apply Fr.drew | apply Fr.drewN | refine Fr.setCell ?_ ?_ _))) (fun _ _ h => h)) hal).mono ?_
  rintro e w1 ⟨b, rfl, hb, hf⟩
  have HB := hid hb
  have HF1 := hid ((show Fr (fun _ => False) w _ by (with_reducible repeat' (first | exact Fr.refl _ _ | apply Fr.alloc | apply Fr.drew | apply Fr.drewN | refine Fr.setCell ?_ ?_ _))).trans hf (fun _ _ h => h))
  have HX1 := hid (HX.out.fr hf (fun h => h))
  clear hb hf hri HX hav
  cases b with
  | false =>
    go_wp2_with (first | still_step | (with_reducible first | refine wpStill_nil ?_ | refine Flow.Both.mk ?_ ?_ | exact True.intro) | (with_reducible refine Flow.same_mk rfl rfl rfl ?_; go_simp; done) | (with_reducible exact Flow.same_un rfl rfl rfl) | (with_reducible refine Flow.region_flow (id := 6) [0, 1, 0, 7, 15, 0, 32, 127, 255] 128 123 [(0, none), (1, none), (2, none), (3, none), (4, none), (5, none), (6, none), (7, some []), (8, none)] mixed ?hB ?_; (case hB => decide +kernel); simp only [Flow.textOf, Flow.q1, Flow.q2, Flow.q3, Flow.q4, Flow.q5, Flow.q6, Flow.q7, Flow.q8, Flow.q9, Flow.wpFl, Flow.SameAll]) | (refine Flow.region_still mixed ?hB ?_; (case hB => decide +kernel)))
    go_ret
    exact Tells.no rfl HF1.out
  | true =>
    have HW := hid (HB.out rfl)
    go_wp2_with (first | still_step | (with_reducible first | refine wpStill_nil ?_ | refine Flow.Both.mk ?_ ?_ | exact True.intro) | (with_reducible refine Flow.same_mk rfl rfl rfl ?_; go_simp; done) | (with_reducible exact Flow.same_un rfl rfl rfl) | (with_reducible refine Flow.region_flow (id := 6) [0, 1, 0, 7, 15, 0, 32, 127, 255] 128 123 [(0, none), (1, none), (2, none), (3, none), (4, none), (5, none), (6, none), (7, some []), (8, none)] mixed ?hB ?_; (case hB => decide +kernel); simp only [Flow.textOf, Flow.q1, Flow.q2, Flow.q3, Flow.q4, Flow.q5, Flow.q6, Flow.q7, Flow.q8, Flow.q9, Flow.wpFl, Flow.SameAll]) | (refine Flow.region_still mixed ?hB ?_; (case hB => decide +kernel)))
    go_loopw [3, 4] (fun i _ wr => ∃ k : Nat, k ≤ L ∧ i = .int .i64 k ∧ (∀ q ∈ qs.take k, ∀ x ∈ q.2, insOk q.2.length locks x) ∧ Blk wr w.heap.size #[.slice ao L co, .slice aa LA ac, .int .i64 words, .int .i64 locks] 25 ∧ Fr (fun _ => False) w wr) (fun i _ _ => L - (intOf i).toNat)
    case atStart => exact ⟨0, Nat.zero_le _, rfl, fun x hx => by simp at hx, HX1.out, HF1.out⟩
    case round =>
      obtain ⟨k, hk, rfl, hall, hx, hf⟩ := hrel
      have HF := hid hf
      have HALL := hid hall
      have HX := hid hx
      have c0_i := Blk.cell hx 0
      have f0_i := Blk.free hx 0
      have c1_i := Blk.cell hx 1
      have f1_i := Blk.free hx 1
      have c2_i := Blk.cell hx 2
      have f2_i := Blk.free hx 2
      have c3_i := Blk.cell hx 3
      have f3_i := Blk.free hx 3
      have l_i := Blk.lt hx
      clear hf hall hx HX1 HF1
      by_cases hlt : k < L
      · have hkl : k < qs.length := by have := HL.out; omega
        obtain ⟨r, off, rfl, hcell⟩ := (HC.out.fr HF.out (fun _ _ h => h)).cell hkl
        have hin := (HC.out.fr HF.out (fun _ _ h => h)).inn qs[k] (List.getElem_mem hkl)
        have hi2 := HI.out qs[k] (List.getElem_mem hkl)
        have htk : qs.take (k + 1) = qs.take k ++ [qs[k]] := by rw [List.take_succ_eq_append_getElem hkl]
        have hrl := World.block_lt_of_cell? _ _ hcell
        dsimp only at hrl
        generalize qs[k] = q at *
        obtain ⟨⟨sp, sc⟩, code⟩ := q
        dsimp only at hcell hin hi2
        have HIN := hid hin
        have HTK := hid htk
        have hck := fun w (hv : Vw w 7 Rc sp code.length (codeC code)) => check_is Rc sp sc code locks w hv HIN.out.2 hi2
        obtain ⟨CL, hCL⟩ : ∃ CL, CL = code.length := ⟨_, rfl⟩
        rw [← hCL] at hcell hck
        have HCL := hid hCL
        have HCK := hid hck
        clear hin htk hCL hck hi2
        go_wp2_with (first | still_step | (with_reducible first | refine wpStill_nil ?_ | refine Flow.Both.mk ?_ ?_ | exact True.intro) | (with_reducible refine Flow.same_mk rfl rfl rfl ?_; go_simp; done) | (with_reducible exact Flow.same_un rfl rfl rfl) | (with_reducible refine Flow.region_flow (id := 6) [0, 1, 0, 7, 15, 0, 32, 127, 255] 128 123 [(0, none), (1, none), (2, none), (3, none), (4, none), (5, none), (6, none), (7, some []), (8, none)] mixed ?hB ?_; (case hB => decide +kernel); simp only [Flow.textOf, Flow.q1, Flow.q2, Flow.q3, Flow.q4, Flow.q5, Flow.q6, Flow.q7, Flow.q8, Flow.q9, Flow.wpFl, Flow.SameAll]) | (refine Flow.region_still mixed ?hB ?_; (case hB => decide +kernel)))
        go_at_call 51
        have hv1 := HIN.out.1
        rw [← HCL.out] at hv1
        refine (HCK.out _ (hv1.fr (S := fun _ => False) (by (with_reducible repeat' (first | exact Fr.refl _ _ | apply Fr.alloc | apply Fr.drew | apply Fr.drewN | refine Fr.setCell ?_ ?_ _))) (fun _ _ h => h))).mono ?_
        rintro e w2 ⟨b, rfl, hb, hf2⟩
        have hf2' : Fr (fun _ => False) wr w2 := by first | exact hf2 | exact fr_ud hf2
        have HF2 := hid (HF.out.trans hf2' (fun _ _ h => h))
        have HX2 := hid (HX.out.fr hf2' (fun h => h))
        have HB2 := hid hb
        clear hf2 hf2' hb hv1 c0_i c1_i c2_i c3_i hcell HX
        have hx2 := HX2.out
        have c0_i := Blk.cell hx2 0
        have f0_i := Blk.free hx2 0
        have c1_i := Blk.cell hx2 1
        have f1_i := Blk.free hx2 1
        have c2_i := Blk.cell hx2 2
        have f2_i := Blk.free hx2 2
        have c3_i := Blk.cell hx2 3
        have f3_i := Blk.free hx2 3
        have l_i := Blk.lt hx2
        clear hx2
        cases b with
        | false =>
          go_wp2_with (first | still_step | (with_reducible first | refine wpStill_nil ?_ | refine Flow.Both.mk ?_ ?_ | exact True.intro) | (with_reducible refine Flow.same_mk rfl rfl rfl ?_; go_simp; done) | (with_reducible exact Flow.same_un rfl rfl rfl) | (with_reducible refine Flow.region_flow (id := 6) [0, 1, 0, 7, 15, 0, 32, 127, 255] 128 123 [(0, none), (1, none), (2, none), (3, none), (4, none), (5, none), (6, none), (7, some []), (8, none)] mixed ?hB ?_; (case hB => decide +kernel); simp only [Flow.textOf, Flow.q1, Flow.q2, Flow.q3, Flow.q4, Flow.q5, Flow.q6, Flow.q7, Flow.q8, Flow.q9, Flow.wpFl, Flow.SameAll]) | (refine Flow.region_still mixed ?hB ?_; (case hB => decide +kernel)))
          go_ret
          exact Tells.no rfl HF2.out
        | true =>
          have hall2 : ∀ q ∈ qs.take (k + 1), ∀ x ∈ q.2, insOk q.2.length locks x := by
            intro q hq
            rw [HTK.out] at hq
            rcases List.mem_append.1 hq with hq | hq
            · exact HALL.out q hq
            · obtain rfl := List.mem_singleton.1 hq
              have := HB2.out rfl
              rw [HCL.out] at this
              exact this
          have HA2 := hid hall2
          clear hall2
          go_wp2_with (first | still_step | (with_reducible first | refine wpStill_nil ?_ | refine Flow.Both.mk ?_ ?_ | exact True.intro) | (with_reducible refine Flow.same_mk rfl rfl rfl ?_; go_simp; done) | (with_reducible exact Flow.same_un rfl rfl rfl) | (with_reducible refine Flow.region_flow (id := 6) [0, 1, 0, 7, 15, 0, 32, 127, 255] 128 123 [(0, none), (1, none), (2, none), (3, none), (4, none), (5, none), (6, none), (7, some []), (8, none)] mixed ?hB ?_; (case hB => decide +kernel); simp only [Flow.textOf, Flow.q1, Flow.q2, Flow.q3, Flow.q4, Flow.q5, Flow.q6, Flow.q7, Flow.q8, Flow.q9, Flow.wpFl, Flow.SameAll]) | (refine Flow.region_still mixed ?hB ?_; (case hB => decide +kernel)))
          go_roundw
          case rel => exact ⟨k + 1, by omega, by go_num, HA2.out, HX2.out, HF2.out⟩
          case measure => simp [intOf]; omega
      · obtain rfl : k = L := by omega
        have hall := HALL.out
        rw [List.take_of_length_le (by have := HL.out; omega)] at hall
        have HA2 := hid hall
        clear hall
        go_wp2_with (first | still_step | (with_reducible first | refine wpStill_nil ?_ | refine Flow.Both.mk ?_ ?_ | exact True.intro) | (with_reducible refine Flow.same_mk rfl rfl rfl ?_; go_simp; done) | (with_reducible exact Flow.same_un rfl rfl rfl) | (with_reducible refine Flow.region_flow (id := 6) [0, 1, 0, 7, 15, 0, 32, 127, 255] 128 123 [(0, none), (1, none), (2, none), (3, none), (4, none), (5, none), (6, none), (7, some []), (8, none)] mixed ?hB ?_; (case hB => decide +kernel); simp only [Flow.textOf, Flow.q1, Flow.q2, Flow.q3, Flow.q4, Flow.q5, Flow.q6, Flow.q7, Flow.q8, Flow.q9, Flow.wpFl, Flow.SameAll]) | (refine Flow.region_still mixed ?hB ?_; (case hB => decide +kernel)))
        go_ret
        exact Tells.yes rfl ⟨⟨by have := HL.out; omega, by omega, by omega, HW.out.1.1, HW.out.1.2, HA2.out⟩, HW.out.2⟩ HF.out
theorem shape_is (Rc Ra : Nat → Prop) (ao aa : Option Addr) (co ac : Nat) (qs : List ((Option Addr × Nat) × List Ins)) (al : List (Int × Int × Bool)) (words locks : Int) (w : World) (hc : Codes w Rc ao qs) (ha : Vw w 3 Ra aa al.length (areaC al))
    (hal : al.length ≤ 9223372036854775807) (hi : ∀ q ∈ qs, q.2.length ≤ 9223372036854775807) :
    Calls Try.prog 31 #[.agg #[.slice ao qs.length co, .slice aa al.length ac, .int .i64 words, .int .i64 locks]] w fun e w' => Tells (goodImg qs words locks) w e w' :=
  (shape2_is Rc Ra ao aa co ac qs al words locks w hc ha hal hi).mono (fun _ _ h => by
    obtain ⟨x, h1, h2, h3⟩ := h
    exact ⟨x, h1, fun hx => (h2 hx).1, h3⟩)

end Go.Proofs.Ytbfeopakmjcapaa.Tso
