/-
  slices.Clone at stores; All, Cut, of package buffer.
-/
import Derived.Test.YtfekjgkhagcjgaaBuf
namespace Go.Proofs.Ytfekjgkhagcjgaa
open Go.RowKit
attribute [local irreducible] wpStill wpList Calls CallsIn

theorem infoENT2 : (Try.prog.info? 74).map (fun i => (i.zero, i.size, i.bytes)) = some (some (.agg #[.int .i64 0, .int .i64 0]), 2, 16) := by kernel_rfl
set_option maxHeartbeats 400000 in
/-- slices.Clone: a row of its own; nil of nil. -/
theorem clone_ent (R : Nat → Prop) (ao : Option Addr) (n cap : Nat) (cs : List Value) (w : World) (hv : Vw w 2 R ao n cs) (hnil : ao = none → n = 0) (h1 : ∀ u ∈ cs, u.oneCell' = true) (hb : n * 16 ≤ 140737488355328) :
    Calls Try.prog 73 #[.slice ao n cap] w fun e w' => ∃ ao' cap', e = .returned (.slice ao' n cap') ∧ OwnAt w' 74 2 (fun k => w.heap.size ≤ k) ao' n cap' cs ∧ Fr (fun _ => False) w w' ∧ (ao = none → ao' = none) := by
  obtain ⟨i0, hi, hz0, hz1, hz2⟩ := info_parts infoENT2
  have hen := fun (w : World) (a : Option Addr) (n c n' c' : Nat) => Lib.run_eql_slice_nil (P := Try.prog) w 69 74 a n c n' c' Try.underlying69
  cases ao with
  | none =>
    have hn := hnil rfl
    subst hn
    obtain rfl : cs = [] := List.eq_nil_of_length_eq_zero (by simpa using hv.1)
    go_enter Try.func73, Try.ntmps73
    go_wp2
    go_ret
    exact ⟨none, 0, rfl, OwnAt.nil _ _ _ _ _, Fr.refl _ _, by simp⟩
  | some ad =>
    have HV := hid hv
    have H1 := hid h1
    have HB := hid hb
    clear hv h1 hb hnil
    go_enter Try.func73, Try.ntmps73
    go_wp2_with (at_builtin; refine wpList_append_Own _ rfl (.tmp 5) (.tmp 6) 69 rfl 74 i0 (.agg #[.int .i64 0, .int .i64 0]) 2 16 Try.underlying69 hi hz0 hz1 hz2 rfl (by decide) (fun k => w.heap.size ≤ k) R (some ⟨w.heap.size, 0, none⟩) 0 0 [] rfl (OwnAt.nil _ _ _ _ _) (some ad) n cap cs rfl (HV.out.fr (S := fun _ => False) (by (repeat' (first | with_reducible exact Fr.refl _ _ | with_reducible apply Fr.alloc | with_reducible apply Fr.drew | with_reducible apply Fr.drewN | (with_reducible refine Fr.setCell ?_ ?_ _)))) (fun _ _ h => h)) H1.out ?b1 ?b2 ?grow)
    case b1 => unfold maxLen; have := HB.out; omega
    case b2 => have := HB.out; omega
    case grow =>
      intro ao' cap' w1 ho1 hf1
      have HO1 := hid ho1
      have HF1 := hid hf1
      clear ho1 hf1
      go_wp2
      go_ret
      refine ⟨ao', cap', rfl, HO1.out.mono (fun k _ h => ?_), ?_, by simp⟩
      · first | omega | (simp at h; omega)
      · have h0 : Fr (fun _ => False) w (w.alloc (.cells #[] 74)) := by (repeat' (first | with_reducible exact Fr.refl _ _ | with_reducible apply Fr.alloc | with_reducible apply Fr.drew | with_reducible apply Fr.drewN | (with_reducible refine Fr.setCell ?_ ?_ _)))
        exact h0.trans HF1.out (fun k hk h => by omega)


theorem ent_nil_of (l : List (Int × Int)) : (ent l = []) ↔ l = [] := by
  cases l <;> simp [ent]

set_option maxHeartbeats 400000 in
theorem all_yes (b : Nat) (R : Nat → Prop) (room : Nat) (l : List (Int × Int)) (w : World) (hb : BufRep w b R room l) :
    Calls Try.prog 55 #[.pointer (some ⟨b, 0, none⟩)] w fun e w' => ∃ ao' cap', e = .returned (.slice ao' l.length cap') ∧ OwnAt w' 74 2 (fun k => w.heap.size ≤ k) ao' l.length cap' (ent l) ∧ Fr (fun _ => False) w w' := by
  obtain ⟨r1, r2, r3, r4, ao, cap, hk, ho⟩ := hb
  have c1 := hk.cell 1
  simp at c1
  have HO := hid ho
  have hn : ao = none → l.length = 0 := fun h => by
    rcases ho.2.2.2 with h1 | ⟨r, off, C, e, _⟩
    · have := ho.1; omega
    · rw [h] at e; cases e
  have HN := hid hn
  have HL := hid (⟨r2, r3⟩ : room ≤ 1000 ∧ l.length ≤ room)
  clear hk ho hn r1 r2 r3
  go_enter Try.func55, Try.ntmps55
  go_wp2_with (first | (go_at_call 73; refine (clone_ent R ao l.length cap (ent l) _ HO.out.vw HN.out (ent_one l) (by have := HL.out; omega)).mono ?_; rintro e w' ⟨ao', cap', rfl, ho', hf', _⟩; have HO' := hid ho'; have HF' := hid hf'; clear ho' hf') | still_step | (with_reducible refine wpStill_nil ?_) | (with_reducible refine Flow.Both.mk ?_ ?_) | (with_reducible exact True.intro) | (with_reducible refine Flow.same_mk rfl rfl rfl ?_; go_simp; done) | (with_reducible exact Flow.same_un rfl rfl rfl) | (refine Flow.region_still mixed ?hB ?_; (case hB => decide +kernel)))
  go_ret
  exact ⟨_, _, rfl, HO'.out, HF'.out⟩

theorem all_nil (w : World) : Calls Try.prog 55 #[.pointer none] w fun e w' => e = .returned (.slice none 0 0) ∧ w = w' := by
  go_enter Try.func55, Try.ntmps55
  go_wp2
  go_ret
  exact ⟨rfl, rfl⟩

theorem cut_rep {w : World} {b : Nat} {R : Nat → Prop} {room : Nat} {l : List (Int × Int)} {ao : Option Addr} {cap m : Nat} (h1 : 1 ≤ room) (h2 : room ≤ 1000) (h3 : l.length ≤ room) (h4 : ¬ R b)
    (hk : Blk w b #[.int .i64 room, .slice ao l.length cap] 126) (ho : OwnAt w 74 2 R ao l.length cap (ent l)) (hm : m ≤ l.length) :
    BufRep (w.setCell ⟨b, 1, none⟩ (.slice ao m m)) b R room (l.take m) ∧ Fr (fun k => k = b) w (w.setCell ⟨b, 1, none⟩ (.slice ao m m)) := by
  have hf : Fr (fun k => k = b) w (w.setCell ⟨b, 1, none⟩ (.slice ao m m)) := by (repeat' (first | with_reducible exact Fr.refl _ _ | with_reducible apply Fr.alloc | with_reducible apply Fr.drew | with_reducible apply Fr.drewN | (with_reducible refine Fr.setCell ?_ ?_ _))); exact fun _ => rfl
  have hl : (l.take m).length = m := by simp; omega
  refine ⟨⟨h1, h2, by omega, h4, ao, m, ?_, ?_⟩, hf⟩
  · rw [hl]; exact hk.set 1 _
  · have h := (ho.head hm).fr hf (fun k h e => by subst e; exact h4 h)
    rw [ent_take] at h
    rw [hl]
    exact h

set_option maxHeartbeats 400000 in
theorem cut_nat (b : Nat) (R : Nat → Prop) (room : Nat) (l : List (Int × Int)) (m : Nat) (w : World) (hb : BufRep w b R room l) :
    Calls Try.prog 56 #[.pointer (some ⟨b, 0, none⟩), .int .i64 m] w fun e w' => e = .returned (.tuple #[]) ∧ BufRep w' b R room (l.take m) ∧ Fr (fun k => k = b) w w' := by
  have HB := hid hb
  obtain ⟨r1, r2, r3, r4, ao, cap, hk, ho⟩ := hb
  have c1 := hk.cell 1
  have f1 := hk.free 1
  have hlt := hk.lt
  have hcap := ho.1
  simp at c1
  have h0 : ¬ ((m : Int) < 0) := by omega
  have HK := hid hk
  have HO := hid ho
  have HL := hid (⟨r1, r2, r3⟩ : 1 ≤ room ∧ room ≤ 1000 ∧ l.length ≤ room)
  clear hk ho r1 r2 r3
  by_cases hm : m < l.length
  · have hle : m ≤ cap := by omega
    go_enter Try.func56, Try.ntmps56
    go_wp2_with (first | (go_at_call 61; refine (len_yes b R room l _ HB.out).mono ?_; rintro e w' ⟨rfl, rfl⟩) | still_step | (with_reducible refine wpStill_nil ?_) | (with_reducible refine Flow.Both.mk ?_ ?_) | (with_reducible exact True.intro) | (with_reducible refine Flow.same_mk rfl rfl rfl ?_; go_simp; done) | (with_reducible exact Flow.same_un rfl rfl rfl) | (refine Flow.region_still mixed ?hB ?_; (case hB => decide +kernel)))
    go_end0
    obtain ⟨g1, g2, g3⟩ := HL.out
    exact ⟨rfl, cut_rep g1 g2 g3 r4 HK.out HO.out (by omega)⟩
  · go_enter Try.func56, Try.ntmps56
    go_wp2_with (first | (go_at_call 61; refine (len_yes b R room l _ HB.out).mono ?_; rintro e w' ⟨rfl, rfl⟩) | still_step | (with_reducible refine wpStill_nil ?_) | (with_reducible refine Flow.Both.mk ?_ ?_) | (with_reducible exact True.intro) | (with_reducible refine Flow.same_mk rfl rfl rfl ?_; go_simp; done) | (with_reducible exact Flow.same_un rfl rfl rfl) | (refine Flow.region_still mixed ?hB ?_; (case hB => decide +kernel)))
    go_end0
    refine ⟨rfl, ?_, Fr.refl _ _⟩
    rw [List.take_of_length_le (by omega)]
    exact HB.out

set_option maxHeartbeats 400000 in
theorem cut_neg (b : Nat) (R : Nat → Prop) (room : Nat) (l : List (Int × Int)) (n : Int) (w : World) (hb : BufRep w b R room l) (h0 : n < 0) :
    Calls Try.prog 56 #[.pointer (some ⟨b, 0, none⟩), .int .i64 n] w fun e w' => e = .returned (.tuple #[]) ∧ BufRep w' b R room [] ∧ Fr (fun k => k = b) w w' := by
  have HB := hid hb
  obtain ⟨r1, r2, r3, r4, ao, cap, hk, ho⟩ := hb
  have c1 := hk.cell 1
  have f1 := hk.free 1
  have hlt := hk.lt
  have hcap := ho.1
  simp at c1
  have HK := hid hk
  have HO := hid ho
  have HL := hid (⟨r1, r2, r3⟩ : 1 ≤ room ∧ room ≤ 1000 ∧ l.length ≤ room)
  clear hk ho r1 r2 r3
  by_cases hm : 0 < l.length
  · go_enter Try.func56, Try.ntmps56
    go_wp2_with (first | (go_at_call 61; refine (len_yes b R room l _ HB.out).mono ?_; rintro e w' ⟨rfl, rfl⟩) | still_step | (with_reducible refine wpStill_nil ?_) | (with_reducible refine Flow.Both.mk ?_ ?_) | (with_reducible exact True.intro) | (with_reducible refine Flow.same_mk rfl rfl rfl ?_; go_simp; done) | (with_reducible exact Flow.same_un rfl rfl rfl) | (refine Flow.region_still mixed ?hB ?_; (case hB => decide +kernel)))
    go_end0
    obtain ⟨g1, g2, g3⟩ := HL.out
    have h := cut_rep (m := 0) g1 g2 g3 r4 HK.out HO.out (by omega)
    exact ⟨rfl, by simpa using h⟩
  · go_enter Try.func56, Try.ntmps56
    go_wp2_with (first | (go_at_call 61; refine (len_yes b R room l _ HB.out).mono ?_; rintro e w' ⟨rfl, rfl⟩) | still_step | (with_reducible refine wpStill_nil ?_) | (with_reducible refine Flow.Both.mk ?_ ?_) | (with_reducible exact True.intro) | (with_reducible refine Flow.same_mk rfl rfl rfl ?_; go_simp; done) | (with_reducible exact Flow.same_un rfl rfl rfl) | (refine Flow.region_still mixed ?hB ?_; (case hB => decide +kernel)))
    go_end0
    have hl : l = [] := List.eq_nil_of_length_eq_zero (by omega)
    subst hl
    exact ⟨rfl, HB.out, Fr.refl _ _⟩

theorem cut_nil (n : Int) (w : World) : Calls Try.prog 56 #[.pointer none, .int .i64 n] w fun e w' => e = .returned (.tuple #[]) ∧ w = w' := by
  by_cases h0 : n < 0
  · go_enter Try.func56, Try.ntmps56
    go_wp2_with (first | (go_at_call 61; refine (len_nil _).mono ?_; rintro e w' ⟨rfl, rfl⟩) | still_step | (with_reducible refine wpStill_nil ?_) | (with_reducible refine Flow.Both.mk ?_ ?_) | (with_reducible exact True.intro) | (with_reducible refine Flow.same_mk rfl rfl rfl ?_; go_simp; done) | (with_reducible exact Flow.same_un rfl rfl rfl) | (refine Flow.region_still mixed ?hB ?_; (case hB => decide +kernel)))
    go_end0
    exact ⟨rfl, rfl⟩
  · go_enter Try.func56, Try.ntmps56
    go_wp2_with (first | (go_at_call 61; refine (len_nil _).mono ?_; rintro e w' ⟨rfl, rfl⟩) | still_step | (with_reducible refine wpStill_nil ?_) | (with_reducible refine Flow.Both.mk ?_ ?_) | (with_reducible exact True.intro) | (with_reducible refine Flow.same_mk rfl rfl rfl ?_; go_simp; done) | (with_reducible exact Flow.same_un rfl rfl rfl) | (refine Flow.region_still mixed ?hB ?_; (case hB => decide +kernel)))
    go_end0
    exact ⟨rfl, rfl⟩

set_option maxHeartbeats 400000 in
theorem push_nil (x y : Int) (w : World) : Calls Try.prog 57 #[.pointer none, .agg #[.int .i64 x, .int .i64 y]] w fun e w' => e = .returned (.bool false) ∧ Fr (fun _ => False) w w' := by
  go_enter Try.func57, Try.ntmps57
  go_wp2_with (first | still_step | (with_reducible refine wpStill_nil ?_) | (with_reducible refine Flow.Both.mk ?_ ?_) | (with_reducible exact True.intro) | (with_reducible refine Flow.same_mk rfl rfl rfl ?_; go_simp; done) | (with_reducible exact Flow.same_un rfl rfl rfl) | (with_reducible refine Flow.region_flow (id := 3) [0, 0, 2, 6, 14, 0, 32, 126, 255, 511, 1023] 1216 828 [(0, none), (1, none), (2, none), (3, none), (4, none), (5, none), (6, some [2, 3, 4]), (7, some []), (8, none), (9, none), (10, some [])] mixed ?hB ?_; (case hB => decide +kernel); simp only [Flow.textOf, List.map_cons, List.map_nil, Option.map_none, Option.map_some, Array.getD_eq_getD_getElem?, List.getElem?_toArray, List.getElem?_cons_zero, List.getElem?_cons_succ, Option.getD_some, Flow.wpFl, Flow.SameAll]) | (refine Flow.region_still mixed ?hB ?_; (case hB => decide +kernel)))
  go_ret
  exact ⟨rfl, by (repeat' (first | with_reducible exact Fr.refl _ _ | with_reducible apply Fr.alloc | with_reducible apply Fr.drew | with_reducible apply Fr.drewN | (with_reducible refine Fr.setCell ?_ ?_ _)))⟩

end Go.Proofs.Ytfekjgkhagcjgaa
