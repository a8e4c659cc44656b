/-
  BufferRuns without room, and all: any script of stores that come, go, and are cut, is answered as the document's is; so are reads, and memory behind them.
-/
import Derived.Test.YtkpbojddahddnaaLaw27
import Derived.Test.YtkpbojddahddnaaLaw27r
namespace Go.Proofs.Ytkpbojddahddnaa
open Go.RowKit
attribute [local irreducible] wpStill wpList Calls CallsIn


set_option maxHeartbeats 4000000 in
set_option maxRecDepth 100000 in
theorem runs_no (n : Int) (hn : n < 1 ∨ 1000 < n) (a0 a1 : Option Addr) (cap0 cap1 : Nat) (l : List (Int × Int × Int)) (mem : List Int) (w : World) (hbig : l.length ≤ 60)
    (hm : Vw w 1 (fun k => k < w.heap.size) a1 mem.length (ints mem)) (hmn : a1 = none → mem.length = 0) (hbig2 : mem.length ≤ 100) :
    Calls Try.prog 3 #[.int .i64 n, .slice a0 l.length cap0, .slice a1 mem.length cap1] w fun e w' => e = .returned (.bool true) ∧ Below w.heap.size w w' := by
  have HM := hid hm
  have HMN := hid hmn
  have HNN := hid hn
  clear hm hmn
  go_enter Try.func3, Try.ntmps3
  have HL := hid (show mem.length * 8 ≤ 140737488355328 by omega)
  have hnd : decide (n < 1) || decide (1000 < n) := by simpa using hn
  go_wp2_with (first | (go_at_call 6; refine (awake_true _).mono ?_; rintro e w1 ⟨rfl, hf⟩; have HF := hid hf; clear hf) | still_step | (with_reducible refine wpStill_nil ?_) | (with_reducible refine Flow.Both.mk ?_ ?_) | (with_reducible exact True.intro) | (with_reducible refine Flow.same_mk rfl rfl rfl ?_; go_simp; done) | (with_reducible exact Flow.same_un rfl rfl rfl) | (with_reducible refine Flow.region_flow (id := 23) [0, 0, 2, 6, 15, 31, 63, 127, 255, 511, 255, 1279, 3327, 7423, 16383, 32767, 65535, 131071, 65535, 327679, 851967, 1900543, 4194303, 8388607, 16777215, 33554431, 67108863, 134217727, 268435455, 536870911, 1073741823, 1073741823, 4294967295, 8589934591, 17179869183] 2147483648 5645237020 [(0, none), (1, none), (2, none), (3, none), (4, none), (5, none), (6, none), (7, none), (8, none), (9, none), (10, none), (11, none), (12, none), (13, none), (14, none), (15, none), (16, none), (17, none), (18, none), (19, none), (20, none), (21, none), (22, none), (23, none), (24, none), (25, none), (26, none), (27, none), (28, none), (29, none), (30, none), (31, some [30]), (32, none), (33, none), (34, none)] mixed ?hB ?_; (case hB => decide +kernel); simp only [Flow.textOf, List.map_cons, List.map_nil, Option.map_none, Option.map_some, Array.getD_eq_getD_getElem?, List.getElem?_toArray, List.getElem?_cons_zero, List.getElem?_cons_succ, Option.getD_some, Flow.wpFl, Flow.SameAll]) | (refine Flow.region_still mixed ?hB ?_; (case hB => decide +kernel)))
  refine (new_no n _ hn).mono ?_
  rintro e w2 ⟨rfl, hf⟩
  have hz1 := HF.out.size
  have HF2 := hid (HF.out.trans hf (fun _ _ h => h))
  clear hf HF
  rcases hn with hn | hn
  all_goals
    go_wp2_with (first | fail | still_step | (with_reducible refine wpStill_nil ?_) | (with_reducible refine Flow.Both.mk ?_ ?_) | (with_reducible exact True.intro) | (with_reducible refine Flow.same_mk rfl rfl rfl ?_; go_simp; done) | (with_reducible exact Flow.same_un rfl rfl rfl) | (with_reducible refine Flow.region_flow (id := 23) [0, 0, 2, 6, 15, 31, 63, 127, 255, 511, 255, 1279, 3327, 7423, 16383, 32767, 65535, 131071, 65535, 327679, 851967, 1900543, 4194303, 8388607, 16777215, 33554431, 67108863, 134217727, 268435455, 536870911, 1073741823, 1073741823, 4294967295, 8589934591, 17179869183] 2147483648 5645237020 [(0, none), (1, none), (2, none), (3, none), (4, none), (5, none), (6, none), (7, none), (8, none), (9, none), (10, none), (11, none), (12, none), (13, none), (14, none), (15, none), (16, none), (17, none), (18, none), (19, none), (20, none), (21, none), (22, none), (23, none), (24, none), (25, none), (26, none), (27, none), (28, none), (29, none), (30, none), (31, some [30]), (32, none), (33, none), (34, none)] mixed ?hB ?_; (case hB => decide +kernel); simp only [Flow.textOf, List.map_cons, List.map_nil, Option.map_none, Option.map_some, Array.getD_eq_getD_getElem?, List.getElem?_toArray, List.getElem?_cons_zero, List.getElem?_cons_succ, Option.getD_some, Flow.wpFl, Flow.SameAll]) | (refine Flow.region_still mixed ?hB ?_; (case hB => decide +kernel)))
    go_loopw [9, 10] (fun v i wr => ∃ k : Nat, k = 0 ∧ i = .int .i64 k ∧ v = .slice none 0 0 ∧ Fr (fun _ => False) w wr) (fun _ i _ => l.length - (intOf i).toNat)
    case atStart => exact ⟨0, rfl, rfl, rfl, HF2.out⟩
    case round =>
      obtain ⟨k0, rfl, rfl, rfl, hfr⟩ := hrel
      have HF3 := hid hfr
      clear hfr HF2
      have HM2 := hid (HM.out.fr HF3.out (fun k h1 h2 => by (first | omega | (dsimp only at h ⊢; omega) | (dsimp only at h; omega) | (dsimp only; omega) | (simp at h ⊢; omega) | (simp at h; omega) | (rcases h with h | h <;> first | exact h.elim | (dsimp only at h ⊢; omega) | (dsimp only at h; omega) | omega))))
      go_wp2_with (first | (go_at_call 14; refine (onto_nil (fun k => k < w.heap.size) a1 cap1 mem _ (HM2.out) HMN.out HL.out).mono ?_; rintro e w5 ⟨am, cm, rfl, ho, hf⟩; have HO := hid ho; have HM3 := hid (HM2.out.fr hf (fun _ _ h => h)); have HF5 := hid (HF3.out.trans hf (fun k _ h => h)); clear ho hf) | (go_at_call 15; refine (ronto_all (fun _ => False) (fun k => k < w.heap.size) none a1 0 cap1 [] mem _ ⟨rfl, .inl rfl⟩ (fun _ h => h.elim) (by simp) HM3.out HL.out).mono ?_; rintro e w6 ⟨am2, cm2, rfl, ho, hf⟩; have HO2 := hid ho; have HO1 := hid (HO.out.fr hf (fun _ _ h => h)); have HF6 := hid (HF5.out.trans hf (fun k _ h => h)); clear ho hf) | still_step | (with_reducible refine wpStill_nil ?_) | (with_reducible refine Flow.Both.mk ?_ ?_) | (with_reducible exact True.intro) | (with_reducible refine Flow.same_mk rfl rfl rfl ?_; go_simp; done) | (with_reducible exact Flow.same_un rfl rfl rfl) | (with_reducible refine Flow.region_flow (id := 23) [0, 0, 2, 6, 15, 31, 63, 127, 255, 511, 255, 1279, 3327, 7423, 16383, 32767, 65535, 131071, 65535, 327679, 851967, 1900543, 4194303, 8388607, 16777215, 33554431, 67108863, 134217727, 268435455, 536870911, 1073741823, 1073741823, 4294967295, 8589934591, 17179869183] 2147483648 5645237020 [(0, none), (1, none), (2, none), (3, none), (4, none), (5, none), (6, none), (7, none), (8, none), (9, none), (10, none), (11, none), (12, none), (13, none), (14, none), (15, none), (16, none), (17, none), (18, none), (19, none), (20, none), (21, none), (22, none), (23, none), (24, none), (25, none), (26, none), (27, none), (28, none), (29, none), (30, none), (31, some [30]), (32, none), (33, none), (34, none)] mixed ?hB ?_; (case hB => decide +kernel); simp only [Flow.textOf, List.map_cons, List.map_nil, Option.map_none, Option.map_some, Array.getD_eq_getD_getElem?, List.getElem?_toArray, List.getElem?_cons_zero, List.getElem?_cons_succ, Option.getD_some, Flow.wpFl, Flow.SameAll]) | (refine Flow.region_still mixed ?hB ?_; (case hB => decide +kernel)))
      all_goals
        go_loopw [23] (fun i wr4 => ∃ k : Nat, k ≤ mem.length ∧ i = .int .i64 k ∧ Fr (fun _ => False) w6 wr4) (fun i _ => mem.length - (intOf i).toNat)
        case atStart => exact ⟨0, Nat.zero_le _, rfl, Fr.refl _ _⟩
        case round =>
          obtain ⟨k, hk, rfl, hf⟩ := hrel
          have HF13 := hid hf
          clear hf
          by_cases hlt : k < mem.length
          · have hne2 : ints mem ≠ [] := fun h => by have := ints_length mem; rw [h] at this; simp at this; omega
            obtain ⟨rm, offm, rfl, hrm', hcm⟩ := (HO1.out.fr HF13.out (fun _ _ h => h)).vw.cell hne2
            obtain ⟨ro, offo, rfl, hro', hco⟩ := (HO2.out.fr HF13.out (fun _ _ h => h)).vw.cell hne2
            have cm0 := hcm k _ (ints_get mem k hlt)
            have co0 := hco k _ (ints_get mem k hlt)
            generalize mem.getD k 0 = q at *
            clear hcm hco hne2
            go_wp2_with (first | fail | still_step | (with_reducible refine wpStill_nil ?_) | (with_reducible refine Flow.Both.mk ?_ ?_) | (with_reducible exact True.intro) | (with_reducible refine Flow.same_mk rfl rfl rfl ?_; go_simp; done) | (with_reducible exact Flow.same_un rfl rfl rfl) | (with_reducible refine Flow.region_flow (id := 23) [0, 0, 2, 6, 15, 31, 63, 127, 255, 511, 255, 1279, 3327, 7423, 16383, 32767, 65535, 131071, 65535, 327679, 851967, 1900543, 4194303, 8388607, 16777215, 33554431, 67108863, 134217727, 268435455, 536870911, 1073741823, 1073741823, 4294967295, 8589934591, 17179869183] 2147483648 5645237020 [(0, none), (1, none), (2, none), (3, none), (4, none), (5, none), (6, none), (7, none), (8, none), (9, none), (10, none), (11, none), (12, none), (13, none), (14, none), (15, none), (16, none), (17, none), (18, none), (19, none), (20, none), (21, none), (22, none), (23, none), (24, none), (25, none), (26, none), (27, none), (28, none), (29, none), (30, none), (31, some [30]), (32, none), (33, none), (34, none)] mixed ?hB ?_; (case hB => decide +kernel); simp only [Flow.textOf, List.map_cons, List.map_nil, Option.map_none, Option.map_some, Array.getD_eq_getD_getElem?, List.getElem?_toArray, List.getElem?_cons_zero, List.getElem?_cons_succ, Option.getD_some, Flow.wpFl, Flow.SameAll]) | (refine Flow.region_still mixed ?hB ?_; (case hB => decide +kernel)))
            go_roundw
            case rel =>
              have hrl : ∃ k_1 : Nat, k_1 ≤ mem.length ∧ (Value.int .i64 ((k : Int) + 1)) = .int .i64 k_1 ∧ Fr (fun _ => False) w6 wr.drew := ⟨k + 1, by omega, by go_num, HF13.out.drew⟩
              first | exact hrl | ((repeat apply Exists.intro); exact ⟨hrl, rfl⟩)
            case measure => simp [intOf]; omega
          · obtain rfl : k = mem.length := by omega
            have HF14 := hid (HF6.out.trans HF13.out (fun k hk e => e))
            go_wp2_with (first | fail | still_step | (with_reducible refine wpStill_nil ?_) | (with_reducible refine Flow.Both.mk ?_ ?_) | (with_reducible exact True.intro) | (with_reducible refine Flow.same_mk rfl rfl rfl ?_; go_simp; done) | (with_reducible exact Flow.same_un rfl rfl rfl) | (with_reducible refine Flow.region_flow (id := 23) [0, 0, 2, 6, 15, 31, 63, 127, 255, 511, 255, 1279, 3327, 7423, 16383, 32767, 65535, 131071, 65535, 327679, 851967, 1900543, 4194303, 8388607, 16777215, 33554431, 67108863, 134217727, 268435455, 536870911, 1073741823, 1073741823, 4294967295, 8589934591, 17179869183] 2147483648 5645237020 [(0, none), (1, none), (2, none), (3, none), (4, none), (5, none), (6, none), (7, none), (8, none), (9, none), (10, none), (11, none), (12, none), (13, none), (14, none), (15, none), (16, none), (17, none), (18, none), (19, none), (20, none), (21, none), (22, none), (23, none), (24, none), (25, none), (26, none), (27, none), (28, none), (29, none), (30, none), (31, some [30]), (32, none), (33, none), (34, none)] mixed ?hB ?_; (case hB => decide +kernel); simp only [Flow.textOf, List.map_cons, List.map_nil, Option.map_none, Option.map_some, Array.getD_eq_getD_getElem?, List.getElem?_toArray, List.getElem?_cons_zero, List.getElem?_cons_succ, Option.getD_some, Flow.wpFl, Flow.SameAll]) | (refine Flow.region_still mixed ?hB ?_; (case hB => decide +kernel)))
            go_ret
            exact ⟨rfl, HF14.out.below (Nat.le_refl _) (fun k h1 h2 => by (first | omega | (dsimp only at h ⊢; omega) | (dsimp only at h; omega) | (dsimp only; omega) | (simp at h ⊢; omega) | (simp at h; omega) | (rcases h with h | h <;> first | exact h.elim | (dsimp only at h ⊢; omega) | (dsimp only at h; omega) | omega)))⟩

set_option maxHeartbeats 4000000 in
set_option maxRecDepth 100000 in
theorem runs_walk (n : Int) (a0 a1 : Option Addr) (cap0 cap1 : Nat) (l : List (Int × Int × Int)) (mem : List Int) (w : World) (hv : Vw w 3 (fun k => k < w.heap.size) a0 l.length (stp l)) (hlen : l.length ≤ 9223372036854775807)
    (hm : Vw w 1 (fun k => k < w.heap.size) a1 mem.length (ints mem)) (hmn : a1 = none → mem.length = 0) (hml : mem.length ≤ 9223372036854775807) :
    Calls Try.prog 3 #[.int .i64 n, .slice a0 l.length cap0, .slice a1 mem.length cap1] w fun e w' => e = .returned (.bool true) ∧ Below w.heap.size w w' := by
  by_cases hbig : 60 < l.length
  · go_enter Try.func3, Try.ntmps3
    go_wp2_with (first | (go_at_call 6; refine (awake_true _).mono ?_; rintro e w1 ⟨rfl, hf⟩; have HF := hid hf; clear hf) | still_step | (with_reducible refine wpStill_nil ?_) | (with_reducible refine Flow.Both.mk ?_ ?_) | (with_reducible exact True.intro) | (with_reducible refine Flow.same_mk rfl rfl rfl ?_; go_simp; done) | (with_reducible exact Flow.same_un rfl rfl rfl) | (with_reducible refine Flow.region_flow (id := 23) [0, 0, 2, 6, 15, 31, 63, 127, 255, 511, 255, 1279, 3327, 7423, 16383, 32767, 65535, 131071, 65535, 327679, 851967, 1900543, 4194303, 8388607, 16777215, 33554431, 67108863, 134217727, 268435455, 536870911, 1073741823, 1073741823, 4294967295, 8589934591, 17179869183] 2147483648 5645237020 [(0, none), (1, none), (2, none), (3, none), (4, none), (5, none), (6, none), (7, none), (8, none), (9, none), (10, none), (11, none), (12, none), (13, none), (14, none), (15, none), (16, none), (17, none), (18, none), (19, none), (20, none), (21, none), (22, none), (23, none), (24, none), (25, none), (26, none), (27, none), (28, none), (29, none), (30, none), (31, some [30]), (32, none), (33, none), (34, none)] mixed ?hB ?_; (case hB => decide +kernel); simp only [Flow.textOf, List.map_cons, List.map_nil, Option.map_none, Option.map_some, Array.getD_eq_getD_getElem?, List.getElem?_toArray, List.getElem?_cons_zero, List.getElem?_cons_succ, Option.getD_some, Flow.wpFl, Flow.SameAll]) | (refine Flow.region_still mixed ?hB ?_; (case hB => decide +kernel)))
    go_ret
    exact ⟨rfl, HF.out.below (Nat.le_refl _) (fun _ _ h => h)⟩
  by_cases hbig2 : 100 < mem.length
  · go_enter Try.func3, Try.ntmps3
    go_wp2_with (first | (go_at_call 6; refine (awake_true _).mono ?_; rintro e w1 ⟨rfl, hf⟩; have HF := hid hf; clear hf) | still_step | (with_reducible refine wpStill_nil ?_) | (with_reducible refine Flow.Both.mk ?_ ?_) | (with_reducible exact True.intro) | (with_reducible refine Flow.same_mk rfl rfl rfl ?_; go_simp; done) | (with_reducible exact Flow.same_un rfl rfl rfl) | (with_reducible refine Flow.region_flow (id := 23) [0, 0, 2, 6, 15, 31, 63, 127, 255, 511, 255, 1279, 3327, 7423, 16383, 32767, 65535, 131071, 65535, 327679, 851967, 1900543, 4194303, 8388607, 16777215, 33554431, 67108863, 134217727, 268435455, 536870911, 1073741823, 1073741823, 4294967295, 8589934591, 17179869183] 2147483648 5645237020 [(0, none), (1, none), (2, none), (3, none), (4, none), (5, none), (6, none), (7, none), (8, none), (9, none), (10, none), (11, none), (12, none), (13, none), (14, none), (15, none), (16, none), (17, none), (18, none), (19, none), (20, none), (21, none), (22, none), (23, none), (24, none), (25, none), (26, none), (27, none), (28, none), (29, none), (30, none), (31, some [30]), (32, none), (33, none), (34, none)] mixed ?hB ?_; (case hB => decide +kernel); simp only [Flow.textOf, List.map_cons, List.map_nil, Option.map_none, Option.map_some, Array.getD_eq_getD_getElem?, List.getElem?_toArray, List.getElem?_cons_zero, List.getElem?_cons_succ, Option.getD_some, Flow.wpFl, Flow.SameAll]) | (refine Flow.region_still mixed ?hB ?_; (case hB => decide +kernel)))
    go_ret
    exact ⟨rfl, HF.out.below (Nat.le_refl _) (fun _ _ h => h)⟩
  by_cases hn : 1 ≤ n ∧ n ≤ 1000
  · obtain ⟨n, rfl⟩ : ∃ m : Nat, n = m := ⟨n.toNat, by omega⟩
    exact runs_yes n (by omega) (by omega) a0 a1 cap0 cap1 l mem w hv (by omega) hm hmn (by omega)
  · exact runs_no n (by omega) a0 a1 cap0 cap1 l mem w (by omega) hm hmn (by omega)
end Go.Proofs.Ytkpbojddahddnaa
