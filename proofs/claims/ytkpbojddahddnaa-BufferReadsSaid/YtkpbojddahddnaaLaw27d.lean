/-
  BufferReads: what is read, of the buffer first, is what memory has behind all that waits; popped one by one onto memory they leave that.
-/
import Derived.Test.YtkpbojddahddnaaLaw27
import Derived.Test.YtkpbojddahddnaaRef27
namespace Go.Proofs.Ytkpbojddahddnaa
open Go.RowKit
attribute [local irreducible] wpStill wpList Calls CallsIn

theorem getL_snoc (l : List (Int × Int)) (e : Int × Int) (at' : Int) : getL (l ++ [e]) at' = if e.1 = at' then (e.2, true) else getL l at' := by
  unfold getL
  rw [List.reverse_append]
  simp only [List.reverse_cons, List.reverse_nil, List.nil_append, List.singleton_append, List.find?_cons]
  by_cases h : e.1 = at'
  · simp [h]
  · have hb : (e.1 == at') = false := by simpa using h
    simp [h, hb]

/-- What memory has behind all that waits, word by word. -/
theorem ontoL_get (mem : List Int) (i : Nat) (hi : i < mem.length) : ∀ (n : Nat) (l : List (Int × Int)), l.length = n → (ontoL mem l).getD i 0 = if (getL l (i : Int)).2 = true then (getL l (i : Int)).1 else mem.getD i 0 := by
  intro n
  induction n with
  | zero => intro l hl; obtain rfl := List.eq_nil_of_length_eq_zero hl; simp [ontoL, getL]
  | succ n ihn =>
    intro l hl
    obtain ⟨l, e, rfl⟩ : ∃ l' e, l = l' ++ [e] := ⟨l.dropLast, l.getLast (by intro h; subst h; simp at hl), (List.dropLast_concat_getLast _).symm⟩
    have ih := ihn l (by simpa using hl)
    rw [ontoL_snoc, getL_snoc]
    unfold putL
    rw [ontoL_length]
    by_cases h : e.1 = (i : Int)
    · rw [if_pos h, if_pos ⟨by omega, by omega⟩, h]
      simp [List.getD, ontoL_length, hi]
    · rw [if_neg h, ← ih]
      split
      · rename_i h2
        have : e.1.toNat ≠ i := by omega
        simp [List.getD, List.getElem?_set_ne this]
      · rfl

set_option maxHeartbeats 4000000 in
set_option maxRecDepth 100000 in
theorem reads_walk (a0 a1 : Option Addr) (cap0 cap1 : Nat) (l : List (Int × Int × Int)) (mem : List Int) (w : World) (hv : Vw w 3 (fun k => k < w.heap.size) a0 l.length (stp l)) (hlen : l.length ≤ 9223372036854775807)
    (hm : Vw w 1 (fun k => k < w.heap.size) a1 mem.length (ints mem)) (hmn : a1 = none → mem.length = 0) (hml : mem.length ≤ 9223372036854775807) :
    Calls Try.prog 4 #[.slice a0 l.length cap0, .slice a1 mem.length cap1] w fun e w' => e = .returned (.bool true) ∧ Below w.heap.size w w' := by
  have HV := hid hv
  have HM := hid hm
  have HMN := hid hmn
  clear hv hm hmn
  by_cases hbig : 60 < l.length
  · go_enter Try.func4, Try.ntmps4
    go_wp2_with (first | (go_at_call 6; refine (awake_true _).mono ?_; rintro e w1 ⟨rfl, hf⟩; have HF := hid hf; clear hf) | still_step | (with_reducible refine wpStill_nil ?_) | (with_reducible refine Flow.Both.mk ?_ ?_) | (with_reducible exact True.intro) | (with_reducible refine Flow.same_mk rfl rfl rfl ?_; go_simp; done) | (with_reducible refine Flow.region_flow (id := 10) [0, 0, 0, 6, 14, 30, 0, 0, 192, 448, 960, 2046, 4095] 6144 1848 [(0, none), (1, none), (2, none), (3, none), (4, none), (5, none), (6, none), (7, none), (8, none), (9, none), (10, none), (11, some []), (12, some [])] mixed ?hB ?_; (case hB => decide +kernel); simp only [Flow.textOf, List.map_cons, List.map_nil, Option.map_none, Option.map_some, Array.getD_eq_getD_getElem?, List.getElem?_toArray, List.getElem?_cons_zero, List.getElem?_cons_succ, Option.getD_some, Flow.wpFl, Flow.SameAll]) | (refine Flow.region_still mixed ?hB ?_; (case hB => decide +kernel)))
    go_ret
    exact ⟨rfl, HF.out.below (Nat.le_refl _) (fun _ _ h => h)⟩
  by_cases hbig2 : 100 < mem.length
  · go_enter Try.func4, Try.ntmps4
    go_wp2_with (first | (go_at_call 6; refine (awake_true _).mono ?_; rintro e w1 ⟨rfl, hf⟩; have HF := hid hf; clear hf) | still_step | (with_reducible refine wpStill_nil ?_) | (with_reducible refine Flow.Both.mk ?_ ?_) | (with_reducible exact True.intro) | (with_reducible refine Flow.same_mk rfl rfl rfl ?_; go_simp; done) | (with_reducible refine Flow.region_flow (id := 10) [0, 0, 0, 6, 14, 30, 0, 0, 192, 448, 960, 2046, 4095] 6144 1848 [(0, none), (1, none), (2, none), (3, none), (4, none), (5, none), (6, none), (7, none), (8, none), (9, none), (10, none), (11, some []), (12, some [])] mixed ?hB ?_; (case hB => decide +kernel); simp only [Flow.textOf, List.map_cons, List.map_nil, Option.map_none, Option.map_some, Array.getD_eq_getD_getElem?, List.getElem?_toArray, List.getElem?_cons_zero, List.getElem?_cons_succ, Option.getD_some, Flow.wpFl, Flow.SameAll]) | (refine Flow.region_still mixed ?hB ?_; (case hB => decide +kernel)))
    go_ret
    exact ⟨rfl, HF.out.below (Nat.le_refl _) (fun _ _ h => h)⟩
  go_enter Try.func4, Try.ntmps4
  go_wp2_with (first | (go_at_call 6; refine (awake_true _).mono ?_; rintro e w1 ⟨rfl, hf⟩; have HF := hid hf; clear hf) | still_step | (with_reducible refine wpStill_nil ?_) | (with_reducible refine Flow.Both.mk ?_ ?_) | (with_reducible exact True.intro) | (with_reducible refine Flow.same_mk rfl rfl rfl ?_; go_simp; done) | (with_reducible refine Flow.region_flow (id := 10) [0, 0, 0, 6, 14, 30, 0, 0, 192, 448, 960, 2046, 4095] 6144 1848 [(0, none), (1, none), (2, none), (3, none), (4, none), (5, none), (6, none), (7, none), (8, none), (9, none), (10, none), (11, some []), (12, some [])] mixed ?hB ?_; (case hB => decide +kernel); simp only [Flow.textOf, List.map_cons, List.map_nil, Option.map_none, Option.map_some, Array.getD_eq_getD_getElem?, List.getElem?_toArray, List.getElem?_cons_zero, List.getElem?_cons_succ, Option.getD_some, Flow.wpFl, Flow.SameAll]) | (refine Flow.region_still mixed ?hB ?_; (case hB => decide +kernel)))
  refine (new_yes 100 _ (by omega) (by omega)).mono ?_
  rintro e w2 ⟨rfl, hb, hf⟩
  have hz1 := HF.out.size
  have HB := hid (hb.mono (R2 := fun k => w1.heap.size < k) (fun k _ h => by (first | omega | (dsimp only at h ⊢; omega) | (dsimp only at h; omega) | (dsimp only; omega) | (simp at h ⊢; omega) | (simp at h; omega) | (rcases h with h | h <;> first | exact h.elim | (dsimp only at h ⊢; omega) | (dsimp only at h; omega) | omega))) (by (first | omega | (dsimp only at h ⊢; omega) | (dsimp only at h; omega) | (dsimp only; omega) | (simp at h ⊢; omega) | (simp at h; omega) | (rcases h with h | h <;> first | exact h.elim | (dsimp only at h ⊢; omega) | (dsimp only at h; omega) | omega))))
  have HF2 := hid (HF.out.trans hf (fun _ _ h => h))
  clear hb hf HF
  go_wp2_with (first | fail | still_step | (with_reducible refine wpStill_nil ?_) | (with_reducible refine Flow.Both.mk ?_ ?_) | (with_reducible exact True.intro) | (with_reducible refine Flow.same_mk rfl rfl rfl ?_; go_simp; done) | (with_reducible refine Flow.region_flow (id := 10) [0, 0, 0, 6, 14, 30, 0, 0, 192, 448, 960, 2046, 4095] 6144 1848 [(0, none), (1, none), (2, none), (3, none), (4, none), (5, none), (6, none), (7, none), (8, none), (9, none), (10, none), (11, some []), (12, some [])] mixed ?hB ?_; (case hB => decide +kernel); simp only [Flow.textOf, List.map_cons, List.map_nil, Option.map_none, Option.map_some, Array.getD_eq_getD_getElem?, List.getElem?_toArray, List.getElem?_cons_zero, List.getElem?_cons_succ, Option.getD_some, Flow.wpFl, Flow.SameAll]) | (refine Flow.region_still mixed ?hB ?_; (case hB => decide +kernel)))
  go_loopw [7] (fun i wr => ∃ k : Nat, k ≤ l.length ∧ i = .int .i64 k ∧ BufRep wr w1.heap.size (fun k => w1.heap.size < k) 100 ((came l).take k) ∧ Fr (fun k => w1.heap.size ≤ k) w wr) (fun i _ => l.length - (intOf i).toNat)
  case atStart => exact ⟨0, Nat.zero_le _, rfl, by simpa using HB.out, HF2.out.mono (fun _ _ h => h.elim)⟩
  case round =>
    obtain ⟨k, hk, rfl, hb, hf⟩ := hrel
    have HB3 := hid hb
    have HF3 := hid hf
    clear hb hf HB HF2
    by_cases hlt : k < l.length
    · have hne : stp l ≠ [] := fun h => by have := stp_length l; rw [h] at this; simp at this; omega
      obtain ⟨r0, off0, rfl, hr0', hc2⟩ := (HV.out.fr HF3.out (fun k h1 h2 => by (first | omega | (dsimp only at h ⊢; omega) | (dsimp only at h; omega) | (dsimp only; omega) | (simp at h ⊢; omega) | (simp at h; omega) | (rcases h with h | h <;> first | exact h.elim | (dsimp only at h ⊢; omega) | (dsimp only at h; omega) | omega)))).cell hne
      have c1 : wr.cell? ⟨r0, off0 + k * 3 + 1, none⟩ = some (.int .i64 l[k].2.1) := hc2 (k * 3 + 1) _ (stp_get l k hlt).2.1
      have c2 : wr.cell? ⟨r0, off0 + k * 3 + 2, none⟩ = some (.int .i64 l[k].2.2) := hc2 (k * 3 + 2) _ (stp_get l k hlt).2.2
      have hpt : (came l).take k ++ [(l[k].2.1, l[k].2.2)] = (came l).take (k + 1) := by
        rw [List.take_succ_eq_append_getElem (by simpa [came] using hlt)]; simp [came]
      have HP := hid hpt
      clear hc2 hne hpt
      go_wp2_with (first | (go_at_call 8; refine (push_yes w1.heap.size (fun k => w1.heap.size < k) 100 ((came l).take k) _ _ _ ?hb (by simp [came]; omega)).mono ?_; (case hb => exact HB3.out.fr (S := fun _ => False) (by (repeat' (first | with_reducible exact Fr.refl _ _ | with_reducible apply Fr.alloc | with_reducible apply Fr.drew | with_reducible apply Fr.drewN | (with_reducible refine Fr.setCell ?_ ?_ _)))) (fun h => h) (fun _ _ h => h)); rintro e w4 ⟨rfl, hb, hf⟩; rw [HP.out] at hb; have HB4 := hid hb; have HF4 := hid hf; clear hb hf) | still_step | (with_reducible refine wpStill_nil ?_) | (with_reducible refine Flow.Both.mk ?_ ?_) | (with_reducible exact True.intro) | (with_reducible refine Flow.same_mk rfl rfl rfl ?_; go_simp; done) | (with_reducible refine Flow.region_flow (id := 10) [0, 0, 0, 6, 14, 30, 0, 0, 192, 448, 960, 2046, 4095] 6144 1848 [(0, none), (1, none), (2, none), (3, none), (4, none), (5, none), (6, none), (7, none), (8, none), (9, none), (10, none), (11, some []), (12, some [])] mixed ?hB ?_; (case hB => decide +kernel); simp only [Flow.textOf, List.map_cons, List.map_nil, Option.map_none, Option.map_some, Array.getD_eq_getD_getElem?, List.getElem?_toArray, List.getElem?_cons_zero, List.getElem?_cons_succ, Option.getD_some, Flow.wpFl, Flow.SameAll]) | (refine Flow.region_still mixed ?hB ?_; (case hB => decide +kernel)))
      go_roundw
      case rel =>
        refine ⟨k + 1, by omega, by go_num, HB4.out.mono (R2 := fun k => w1.heap.size < k) (fun k _ h => by have := HB3.out.lt; (first | omega | (dsimp only at h ⊢; omega) | (dsimp only at h; omega) | (dsimp only; omega) | (simp at h ⊢; omega) | (simp at h; omega) | (rcases h with h | h <;> first | exact h.elim | (dsimp only at h ⊢; omega) | (dsimp only at h; omega) | omega))) (by (first | omega | (dsimp only at h ⊢; omega) | (dsimp only at h; omega) | (dsimp only; omega) | (simp at h ⊢; omega) | (simp at h; omega) | (rcases h with h | h <;> first | exact h.elim | (dsimp only at h ⊢; omega) | (dsimp only at h; omega) | omega))), HF3.out.drew.trans HF4.out (fun k hk h => by (first | omega | (dsimp only at h ⊢; omega) | (dsimp only at h; omega) | (dsimp only; omega) | (simp at h ⊢; omega) | (simp at h; omega) | (rcases h with h | h <;> first | exact h.elim | (dsimp only at h ⊢; omega) | (dsimp only at h; omega) | omega)))⟩
      case measure => simp [intOf]; omega
    · obtain rfl : k = l.length := by omega
      have hb5 : BufRep wr w1.heap.size (fun k => w1.heap.size < k) 100 (came l) := by have h := HB3.out; rwa [List.take_of_length_le (l := came l) (by simp [came])] at h
      have HB5 := hid hb5
      have HL := hid (show mem.length * 8 ≤ 140737488355328 by omega)
      clear hb5 HB3
      have hcl : (came l).length = l.length := by simp [came]
      have HCL := hid hcl
      clear hcl
      go_wp2_with (first | (go_at_call 14; refine (onto_yes w1.heap.size (fun k => w1.heap.size < k) (fun k => k < w.heap.size) 100 (came l) a1 cap1 mem _ HB5.out (HM.out.fr HF3.out (fun k h1 h2 => by (first | omega | (dsimp only at h ⊢; omega) | (dsimp only at h; omega) | (dsimp only; omega) | (simp at h ⊢; omega) | (simp at h; omega) | (rcases h with h | h <;> first | exact h.elim | (dsimp only at h ⊢; omega) | (dsimp only at h; omega) | omega)))) HMN.out HL.out).mono ?_; rintro e w5 ⟨am, cm, rfl, ho, hf⟩; have HO := hid ho; have hb6 := HB5.out.fr hf (fun h => h) (fun _ _ h => h); have HB6 := hid hb6; have HF5 := hid (HF3.out.trans hf (fun k _ h => h.elim)); have HZ := hid (show w1.heap.size < wr.heap.size from HB5.out.lt); clear ho hf hb6) | still_step | (with_reducible refine wpStill_nil ?_) | (with_reducible refine Flow.Both.mk ?_ ?_) | (with_reducible exact True.intro) | (with_reducible refine Flow.same_mk rfl rfl rfl ?_; go_simp; done) | (with_reducible refine Flow.region_flow (id := 10) [0, 0, 0, 6, 14, 30, 0, 0, 192, 448, 960, 2046, 4095] 6144 1848 [(0, none), (1, none), (2, none), (3, none), (4, none), (5, none), (6, none), (7, none), (8, none), (9, none), (10, none), (11, some []), (12, some [])] mixed ?hB ?_; (case hB => decide +kernel); simp only [Flow.textOf, List.map_cons, List.map_nil, Option.map_none, Option.map_some, Array.getD_eq_getD_getElem?, List.getElem?_toArray, List.getElem?_cons_zero, List.getElem?_cons_succ, Option.getD_some, Flow.wpFl, Flow.SameAll]) | (refine Flow.region_still mixed ?hB ?_; (case hB => decide +kernel)))
      go_loopw [9] (fun i wq => ∃ k : Nat, k ≤ mem.length ∧ i = .int .i64 k ∧ BufRep wq w1.heap.size (fun k => w1.heap.size < k) 100 (came l) ∧ Fr (fun _ => False) w5 wq) (fun i _ => mem.length - (intOf i).toNat)
      case atStart => exact ⟨0, Nat.zero_le _, rfl, HB6.out, Fr.refl _ _⟩
      case round =>
        obtain ⟨k, hk, rfl, hb, hf⟩ := hrel
        have HB7 := hid hb
        have HF7 := hid hf
        clear hb hf
        by_cases hlt : k < mem.length
        · have hne : ints mem ≠ [] := fun h => by have := ints_length mem; rw [h] at this; simp at this; omega
          have hne2 : ints (ontoL mem (came l)) ≠ [] := fun h => by have := ints_length (ontoL mem (came l)); rw [h, ontoL_length] at this; simp at this; omega
          obtain ⟨r0, off0, rfl, hr0', hc0⟩ := ((HM.out.fr HF5.out (fun k h1 h2 => by (first | omega | (dsimp only at h ⊢; omega) | (dsimp only at h; omega) | (dsimp only; omega) | (simp at h ⊢; omega) | (simp at h; omega) | (rcases h with h | h <;> first | exact h.elim | (dsimp only at h ⊢; omega) | (dsimp only at h; omega) | omega)))).fr HF7.out (fun _ _ h => h)).cell hne
          have c0 := hc0 k _ (ints_get mem k hlt)
          obtain ⟨rm, offm, rfl, hrm', hcm⟩ := (HO.out.fr HF7.out (fun _ _ h => h)).vw.cell hne2
          have cm0 := hcm k _ (ints_get _ k (by rw [ontoL_length]; exact hlt))
          rw [ontoL_get mem k hlt _ _ rfl] at cm0
          have H0 := hid c0
          have HM0 := hid cm0
          clear c0 cm0 hc0 hcm hne hne2
          generalize hg : getL (came l) (k : Int) = g at *
          obtain ⟨gn, gb⟩ := g
          cases gb
          all_goals
            go_wp2_with (first | (go_at_call 11; refine (get_yes w1.heap.size (fun k => w1.heap.size < k) 100 (came l) _ _ HB7.out).mono ?_; rintro e w6 ⟨rfl, hf⟩; rw [hg]; dsimp only; have c0 := hf.cell H0.out (fun h => h); have cm0 := hf.cell HM0.out (fun h => h); simp only [Bool.false_eq_true, if_false, if_true] at cm0; have HB8 := hid (HB7.out.fr hf (fun h => h) (fun _ _ h => h)); have HF8 := hid (HF7.out.trans hf (fun _ _ h => h)); clear hf) | still_step | (with_reducible refine wpStill_nil ?_) | (with_reducible refine Flow.Both.mk ?_ ?_) | (with_reducible exact True.intro) | (with_reducible refine Flow.same_mk rfl rfl rfl ?_; go_simp; done) | (with_reducible refine Flow.region_flow (id := 10) [0, 0, 0, 6, 14, 30, 0, 0, 192, 448, 960, 2046, 4095] 6144 1848 [(0, none), (1, none), (2, none), (3, none), (4, none), (5, none), (6, none), (7, none), (8, none), (9, none), (10, none), (11, some []), (12, some [])] mixed ?hB ?_; (case hB => decide +kernel); simp only [Flow.textOf, List.map_cons, List.map_nil, Option.map_none, Option.map_some, Array.getD_eq_getD_getElem?, List.getElem?_toArray, List.getElem?_cons_zero, List.getElem?_cons_succ, Option.getD_some, Flow.wpFl, Flow.SameAll]) | (refine Flow.region_still mixed ?hB ?_; (case hB => decide +kernel)))
            go_roundw
            case rel =>
              have hrl : ∃ k_1 : Nat, k_1 ≤ mem.length ∧ (Value.int .i64 ((k : Int) + 1)) = .int .i64 k_1 ∧ BufRep w6 w1.heap.size (fun k => w1.heap.size < k) 100 (came l) ∧ Fr (fun _ => False) w5 w6 := ⟨k + 1, by omega, by go_num, HB8.out, HF8.out⟩
              first | exact hrl | ((repeat apply Exists.intro); exact ⟨hrl, rfl⟩)
            case measure => simp [intOf]; omega
        · obtain rfl : k = mem.length := by omega
          obtain ⟨i0, hi, hz0, hz1', hz2⟩ := info_parts infoTI
          obtain ⟨wq, rfl⟩ : ∃ wq : World, wq = wr := ⟨_, rfl⟩
          have HF9 := hid (HF5.out.trans HF7.out (fun k _ h => h.elim))
          have hwq : w1.heap.size < wq.heap.size := HB7.out.lt
          go_wp2_with (first | (at_builtin; refine wpList_append_Own _ rfl (.tmp 83) (.tmp 84) 23 rfl 2 i0 (.int .i64 0) 1 8 Try.underlying23 hi hz0 hz1' hz2 rfl (by decide) (fun _ => False) (fun k => k < w.heap.size) none 0 0 [] rfl (OwnAt.nil _ _ _ _ _) a1 mem.length cap1 (ints mem) rfl (HM.out.fr HF9.out (fun k h1 h2 => by (first | omega | (dsimp only at h ⊢; omega) | (dsimp only at h; omega) | (dsimp only; omega) | (simp at h ⊢; omega) | (simp at h; omega) | (rcases h with h | h <;> first | exact h.elim | (dsimp only at h ⊢; omega) | (dsimp only at h; omega) | omega)))) (ints_one _) ?b1 ?b2 ?grow) | still_step | (with_reducible refine wpStill_nil ?_) | (with_reducible refine Flow.Both.mk ?_ ?_) | (with_reducible exact True.intro) | (with_reducible refine Flow.same_mk rfl rfl rfl ?_; go_simp; done) | (with_reducible refine Flow.region_flow (id := 10) [0, 0, 0, 6, 14, 30, 0, 0, 192, 448, 960, 2046, 4095] 6144 1848 [(0, none), (1, none), (2, none), (3, none), (4, none), (5, none), (6, none), (7, none), (8, none), (9, none), (10, none), (11, some []), (12, some [])] mixed ?hB ?_; (case hB => decide +kernel); simp only [Flow.textOf, List.map_cons, List.map_nil, Option.map_none, Option.map_some, Array.getD_eq_getD_getElem?, List.getElem?_toArray, List.getElem?_cons_zero, List.getElem?_cons_succ, Option.getD_some, Flow.wpFl, Flow.SameAll]) | (refine Flow.region_still mixed ?hB ?_; (case hB => decide +kernel)))
          case b1 => unfold maxLen; have := HL.out; omega
          case b2 => have := HL.out; omega
          case grow =>
            intro ao' cap' w6 ho1 hf1
            have HO1 := hid (ho1.mono (R2 := fun k => wq.heap.size ≤ k) (fun k _ h => by (first | omega | (dsimp only at h ⊢; omega) | (dsimp only at h; omega) | (dsimp only; omega) | (simp at h ⊢; omega) | (simp at h; omega) | (rcases h with h | h <;> first | exact h.elim | (dsimp only at h ⊢; omega) | (dsimp only at h; omega) | omega))))
            have HB8 := hid (HB7.out.fr hf1 (fun h => h) (fun _ _ h => h))
            have HF10 := hid (HF9.out.trans hf1 (fun k _ h => h.elim))
            have HO2 := hid ((HO.out.fr HF7.out (fun _ _ h => h)).fr hf1 (fun _ _ h => h))
            have hw6 : wq.heap.size ≤ w6.heap.size := hf1.size
            clear ho1 hf1
            go_wp2_with (first | fail | still_step | (with_reducible refine wpStill_nil ?_) | (with_reducible refine Flow.Both.mk ?_ ?_) | (with_reducible exact True.intro) | (with_reducible refine Flow.same_mk rfl rfl rfl ?_; go_simp; done) | (with_reducible refine Flow.region_flow (id := 10) [0, 0, 0, 6, 14, 30, 0, 0, 192, 448, 960, 2046, 4095] 6144 1848 [(0, none), (1, none), (2, none), (3, none), (4, none), (5, none), (6, none), (7, none), (8, none), (9, none), (10, none), (11, some []), (12, some [])] mixed ?hB ?_; (case hB => decide +kernel); simp only [Flow.textOf, List.map_cons, List.map_nil, Option.map_none, Option.map_some, Array.getD_eq_getD_getElem?, List.getElem?_toArray, List.getElem?_cons_zero, List.getElem?_cons_succ, Option.getD_some, Flow.wpFl, Flow.SameAll]) | (refine Flow.region_still mixed ?hB ?_; (case hB => decide +kernel)))
            go_loopw [12, 13] (fun v i wr3 => ∃ k : Nat, k ≤ l.length ∧ i = .int .i64 k ∧ (∃ a c, v = .slice a mem.length c ∧ OwnAt wr3 2 1 (fun k => wq.heap.size ≤ k) a mem.length c (ints (ontoL mem ((came l).take k)))) ∧
              BufRep wr3 w1.heap.size (fun k => w1.heap.size < k) 100 ((came l).drop k) ∧ Fr (fun k => k = w1.heap.size) w6 wr3) (fun _ i _ => l.length - (intOf i).toNat)
            case atStart => exact ⟨0, Nat.zero_le _, rfl, ⟨_, _, rfl, HO1.out⟩, HB8.out, Fr.refl _ _⟩
            case round =>
              obtain ⟨k, hk, rfl, ⟨a2, c2, rfl, ho⟩, hb, hf⟩ := hrel
              have HO3 := hid ho
              have HF11 := hid hf
              by_cases hlt : k < l.length
              · have hd : (came l).drop k = (l[k].2.1, l[k].2.2) :: (came l).drop (k + 1) := by
                  rw [List.drop_eq_getElem_cons (by simpa [came] using hlt)]; simp [came]
                rw [hd] at hb
                have HB9 := hid hb
                have hs : ontoL mem ((came l).take (k + 1)) = putL (ontoL mem ((came l).take k)) (l[k].2.1, l[k].2.2) := by
                  rw [List.take_succ_eq_append_getElem (by simpa [came] using hlt), ontoL_snoc]; simp [came]
                have HS := hid hs
                have HML := hid (ontoL_length ((came l).take k) mem)
                clear hd hb hs ho hf
                go_wp2_with (first | (go_at_call 9; refine (pop_some w1.heap.size (fun k => w1.heap.size < k) 100 l[k].2.1 l[k].2.2 ((came l).drop (k + 1)) _ HB9.out).mono ?_; rintro e w7 ⟨rfl, hb, hf⟩; have HB10 := hid hb; have HO4 := hid (HO3.out.fr hf (fun k h e => by (first | omega | (dsimp only at h ⊢; omega) | (dsimp only at h; omega) | (dsimp only; omega) | (simp at h ⊢; omega) | (simp at h; omega) | (rcases h with h | h <;> first | exact h.elim | (dsimp only at h ⊢; omega) | (dsimp only at h; omega) | omega)))); have HF12 := hid (HF11.out.trans hf (fun k hk h => h)); clear hb hf) | (go_at_call 16; refine (rput_n (fun k => wq.heap.size ≤ k) a2 c2 mem.length (ontoL mem ((came l).take k)) _ _ _ HML.out (HO4.out.fr (S := fun _ => False) (by (repeat' (first | with_reducible exact Fr.refl _ _ | with_reducible apply Fr.alloc | with_reducible apply Fr.drew | with_reducible apply Fr.drewN | (with_reducible refine Fr.setCell ?_ ?_ _)))) (fun _ _ h => h)).vw HL.out).mono ?_; rintro e w8 ⟨a3, c3, rfl, ho3, hf3⟩; have hf4 := (show Fr (fun _ => False) w7 _ by (repeat' (first | with_reducible exact Fr.refl _ _ | with_reducible apply Fr.alloc | with_reducible apply Fr.drew | with_reducible apply Fr.drewN | (with_reducible refine Fr.setCell ?_ ?_ _)))).trans hf3 (fun _ _ h => h); have HO5 := hid ho3; have HB11 := hid (HB10.out.fr hf4 (fun h => h) (fun _ _ h => h)); have HF13 := hid (HF12.out.trans hf4 (fun k hk h => h.elim)); clear ho3 hf3 hf4) | still_step | (with_reducible refine wpStill_nil ?_) | (with_reducible refine Flow.Both.mk ?_ ?_) | (with_reducible exact True.intro) | (with_reducible refine Flow.same_mk rfl rfl rfl ?_; go_simp; done) | (with_reducible refine Flow.region_flow (id := 10) [0, 0, 0, 6, 14, 30, 0, 0, 192, 448, 960, 2046, 4095] 6144 1848 [(0, none), (1, none), (2, none), (3, none), (4, none), (5, none), (6, none), (7, none), (8, none), (9, none), (10, none), (11, some []), (12, some [])] mixed ?hB ?_; (case hB => decide +kernel); simp only [Flow.textOf, List.map_cons, List.map_nil, Option.map_none, Option.map_some, Array.getD_eq_getD_getElem?, List.getElem?_toArray, List.getElem?_cons_zero, List.getElem?_cons_succ, Option.getD_some, Flow.wpFl, Flow.SameAll]) | (refine Flow.region_still mixed ?hB ?_; (case hB => decide +kernel)))
                go_roundw
                case rel =>
                  have hrl : ∃ k_1 : Nat, k_1 ≤ l.length ∧ (Value.int .i64 ((k : Int) + 1)) = .int .i64 k_1 ∧ (∃ a c, (Value.slice a3 mem.length c3) = .slice a mem.length c ∧ OwnAt w8 2 1 (fun k => wq.heap.size ≤ k) a mem.length c (ints (ontoL mem ((came l).take k_1)))) ∧ BufRep w8 w1.heap.size (fun k => w1.heap.size < k) 100 ((came l).drop k_1) ∧ Fr (fun k => k = w1.heap.size) w6 w8 :=
                    ⟨k + 1, by omega, by go_num, ⟨_, _, rfl, by rw [HS.out]; exact HO5.out.mono (fun k _ h => by have := HF12.out.size; (first | omega | (dsimp only at h ⊢; omega) | (dsimp only at h; omega) | (dsimp only; omega) | (simp at h ⊢; omega) | (simp at h; omega) | (rcases h with h | h <;> first | exact h.elim | (dsimp only at h ⊢; omega) | (dsimp only at h; omega) | omega)))⟩, HB11.out, HF13.out⟩
                  first | exact hrl | ((repeat apply Exists.intro); exact ⟨hrl, rfl⟩)
                case measure => simp [intOf]; omega
              · obtain rfl : k = l.length := by omega
                rw [List.take_of_length_le (l := came l) (by simp [came])] at ho
                rw [List.drop_of_length_le (l := came l) (by simp [came])] at hb
                have HO4 := hid ho
                have HB9 := hid hb
                have HM4 := hid (HO2.out.fr HF11.out (fun k h e => by have := HZ.out; (first | omega | (dsimp only at h ⊢; omega) | (dsimp only at h; omega) | (dsimp only; omega) | (simp at h ⊢; omega) | (simp at h; omega) | (rcases h with h | h <;> first | exact h.elim | (dsimp only at h ⊢; omega) | (dsimp only at h; omega) | omega))))
                have HF12 := hid (HF10.out.trans HF11.out (fun k hk e => by (first | omega | (dsimp only at h ⊢; omega) | (dsimp only at h; omega) | (dsimp only; omega) | (simp at h ⊢; omega) | (simp at h; omega) | (rcases h with h | h <;> first | exact h.elim | (dsimp only at h ⊢; omega) | (dsimp only at h; omega) | omega))))
                clear ho hb hf HO3 HB8 HO2 HO1 HF11
                obtain ⟨wz, rfl⟩ : ∃ wz : World, wz = wr := ⟨_, rfl⟩
                go_wp2_with (first | fail | still_step | (with_reducible refine wpStill_nil ?_) | (with_reducible refine Flow.Both.mk ?_ ?_) | (with_reducible exact True.intro) | (with_reducible refine Flow.same_mk rfl rfl rfl ?_; go_simp; done) | (with_reducible refine Flow.region_flow (id := 10) [0, 0, 0, 6, 14, 30, 0, 0, 192, 448, 960, 2046, 4095] 6144 1848 [(0, none), (1, none), (2, none), (3, none), (4, none), (5, none), (6, none), (7, none), (8, none), (9, none), (10, none), (11, some []), (12, some [])] mixed ?hB ?_; (case hB => decide +kernel); simp only [Flow.textOf, List.map_cons, List.map_nil, Option.map_none, Option.map_some, Array.getD_eq_getD_getElem?, List.getElem?_toArray, List.getElem?_cons_zero, List.getElem?_cons_succ, Option.getD_some, Flow.wpFl, Flow.SameAll]) | (refine Flow.region_still mixed ?hB ?_; (case hB => decide +kernel)))
                go_loopw [16] (fun i wr4 => ∃ k : Nat, k ≤ mem.length ∧ i = .int .i64 k ∧ Fr (fun _ => False) wz wr4) (fun i _ => mem.length - (intOf i).toNat)
                case atStart => exact ⟨0, Nat.zero_le _, rfl, Fr.refl _ _⟩
                case round =>
                  obtain ⟨k, hk, rfl, hf⟩ := hrel
                  have HF13 := hid hf
                  clear hf
                  by_cases hlt : k < mem.length
                  · have hne2 : ints (ontoL mem (came l)) ≠ [] := fun h => by have := ints_length (ontoL mem (came l)); rw [h, ontoL_length] at this; simp at this; omega
                    obtain ⟨rm, offm, rfl, hrm', hcm⟩ := (HM4.out.fr HF13.out (fun _ _ h => h)).vw.cell hne2
                    obtain ⟨ro, offo, rfl, hro', hco⟩ := (HO4.out.fr HF13.out (fun _ _ h => h)).vw.cell hne2
                    have cm0 := hcm k _ (ints_get _ k (by rw [ontoL_length]; exact hlt))
                    have co0 := hco k _ (ints_get _ k (by rw [ontoL_length]; exact hlt))
                    generalize (ontoL mem (came l)).getD k 0 = q at *
                    clear hcm hco hne2
                    go_wp2_with (first | fail | still_step | (with_reducible refine wpStill_nil ?_) | (with_reducible refine Flow.Both.mk ?_ ?_) | (with_reducible exact True.intro) | (with_reducible refine Flow.same_mk rfl rfl rfl ?_; go_simp; done) | (with_reducible refine Flow.region_flow (id := 10) [0, 0, 0, 6, 14, 30, 0, 0, 192, 448, 960, 2046, 4095] 6144 1848 [(0, none), (1, none), (2, none), (3, none), (4, none), (5, none), (6, none), (7, none), (8, none), (9, none), (10, none), (11, some []), (12, some [])] mixed ?hB ?_; (case hB => decide +kernel); simp only [Flow.textOf, List.map_cons, List.map_nil, Option.map_none, Option.map_some, Array.getD_eq_getD_getElem?, List.getElem?_toArray, List.getElem?_cons_zero, List.getElem?_cons_succ, Option.getD_some, Flow.wpFl, Flow.SameAll]) | (refine Flow.region_still mixed ?hB ?_; (case hB => decide +kernel)))
                    go_roundw
                    case rel =>
                      have hrl : ∃ k_1 : Nat, k_1 ≤ mem.length ∧ (Value.int .i64 ((k : Int) + 1)) = .int .i64 k_1 ∧ Fr (fun _ => False) wz wr.drew := ⟨k + 1, by omega, by go_num, HF13.out.drew⟩
                      first | exact hrl | ((repeat apply Exists.intro); exact ⟨hrl, rfl⟩)
                    case measure => simp [intOf]; omega
                  · obtain rfl : k = mem.length := by omega
                    have HF14 := hid (HF12.out.trans HF13.out (fun k hk e => e.elim))
                    have HB10 := hid (HB9.out.fr HF13.out (fun h => h) (fun _ _ h => h))
                    clear HO4 HM4 HB9 HF12 HF13
                    go_wp2_with (first | (go_at_call 11; refine (get_nil _ _).mono ?_; rintro e w9 ⟨rfl, hf⟩; have HF15 := hid (HF14.out.trans hf (fun k hk h => h.elim)); have HB11 := hid (HB10.out.fr hf (fun h => h) (fun _ _ h => h)); clear hf) | (go_at_call 10; refine (cut_nil _ _).mono ?_; rintro e w9 ⟨rfl, rfl⟩) | (go_at_call 17; refine (len_nil _).mono ?_; rintro e w9 ⟨rfl, rfl⟩) | (go_at_call 17; refine (len_yes w1.heap.size (fun k => w1.heap.size < k) 100 [] _ HB11.out).mono ?_; rintro e w9 ⟨rfl, rfl⟩) | (go_at_call 8; refine (push_nil _ _ _).mono ?_; rintro e w10 ⟨rfl, hf⟩; have HF16 := hid (HF15.out.trans hf (fun k hk h => h.elim)); clear hf) | (go_at_call 14; refine (onto_nil (fun k => k < w.heap.size) a1 cap1 mem _ (HM.out.fr HF16.out (fun k h1 h2 => by (first | omega | (dsimp only at h ⊢; omega) | (dsimp only at h; omega) | (dsimp only; omega) | (simp at h ⊢; omega) | (simp at h; omega) | (rcases h with h | h <;> first | exact h.elim | (dsimp only at h ⊢; omega) | (dsimp only at h; omega) | omega)))) HMN.out HL.out).mono ?_; rintro e w11 ⟨ax, cx, rfl, _, hf⟩; have HF17 := hid (HF16.out.trans hf (fun k hk h => h.elim)); clear hf) | still_step | (with_reducible refine wpStill_nil ?_) | (with_reducible refine Flow.Both.mk ?_ ?_) | (with_reducible exact True.intro) | (with_reducible refine Flow.same_mk rfl rfl rfl ?_; go_simp; done) | (with_reducible refine Flow.region_flow (id := 10) [0, 0, 0, 6, 14, 30, 0, 0, 192, 448, 960, 2046, 4095] 6144 1848 [(0, none), (1, none), (2, none), (3, none), (4, none), (5, none), (6, none), (7, none), (8, none), (9, none), (10, none), (11, some []), (12, some [])] mixed ?hB ?_; (case hB => decide +kernel); simp only [Flow.textOf, List.map_cons, List.map_nil, Option.map_none, Option.map_some, Array.getD_eq_getD_getElem?, List.getElem?_toArray, List.getElem?_cons_zero, List.getElem?_cons_succ, Option.getD_some, Flow.wpFl, Flow.SameAll]) | (refine Flow.region_still mixed ?hB ?_; (case hB => decide +kernel)))
                    go_ret
                    exact ⟨rfl, HF17.out.below (Nat.le_refl _) (fun k h1 h2 => by (first | omega | (dsimp only at h ⊢; omega) | (dsimp only at h; omega) | (dsimp only; omega) | (simp at h ⊢; omega) | (simp at h; omega) | (rcases h with h | h <;> first | exact h.elim | (dsimp only at h ⊢; omega) | (dsimp only at h; omega) | omega)))⟩

end Go.Proofs.Ytkpbojddahddnaa
