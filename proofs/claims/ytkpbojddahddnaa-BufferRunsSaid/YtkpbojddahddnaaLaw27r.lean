/-
  BufferRuns: any script of stores that come, go, and are cut, is answered as the document's is; so are reads, and memory behind them.
-/
import Derived.Test.YtkpbojddahddnaaLaw27
import Derived.Test.YtkpbojddahddnaaTwo
namespace Go.Proofs.Ytkpbojddahddnaa
open Go.RowKit
attribute [local irreducible] wpStill wpList Calls CallsIn

theorem and63 (n : Int) : bits .and .i64 n 63 = n % 64 := by
  have h1 : (BitVec.ofInt 64 63).toNat = 2 ^ 6 - 1 := by decide
  show IntKind.i64.wrap ((BitVec.ofInt 64 n &&& BitVec.ofInt 64 63).toNat : Nat) = n % 64
  rw [BitVec.toNat_and, BitVec.toNat_ofInt, h1, Nat.and_two_pow_sub_one_eq_mod, IntKind.wrap_i64]
  omega

theorem run_min2_nat {P : Program} (ts : Array TypeId) (t : TypeId) (a b d : Nat) (hd : d = min a b) (w : World) :
    (Builtin.min_ ts t #[.int .i64 (a : Int), .int .i64 (b : Int)]).run P w = .ok (.int .i64 (d : Int)) w := by
  subst hd
  simp only [Builtin.min_]
  simp [List.foldlM_cons, List.foldlM_nil, Builtin.min2]
  split <;> omega

theorem run_max0_nat {P : Program} (ts : Array TypeId) (t : TypeId) (a : Nat) (w : World) :
    (Builtin.max_ ts t #[.int .i64 (a : Int), .int .i64 0]).run P w = .ok (.int .i64 (a : Int)) w := by
  simp only [Builtin.max_]
  simp [List.foldlM_cons, List.foldlM_nil, Builtin.max2]
  omega

set_option maxHeartbeats 8000000 in
set_option maxRecDepth 100000 in
theorem runs_yes (n : Nat) (hn1 : 1 ≤ n) (hn2 : n ≤ 1000) (a0 a1 : Option Addr) (cap0 cap1 : Nat) (l : List (Int × Int × Int)) (mem : List Int) (w : World) (hv : Vw w 3 (fun k => k < w.heap.size) a0 l.length (stp l)) (hbig : l.length ≤ 60)
    (hm : Vw w 1 (fun k => k < w.heap.size) a1 mem.length (ints mem)) (hmn : a1 = none → mem.length = 0) (hbig2 : mem.length ≤ 100) :
    Calls Try.prog 3 #[.int .i64 n, .slice a0 l.length cap0, .slice a1 mem.length cap1] w fun e w' => e = .returned (.bool true) ∧ Below w.heap.size w w' := by
  have HV := hid hv
  have HM := hid hm
  have HMN := hid hmn
  have e1 : (1 : Int) ≤ (n : Int) := by omega
  have e2 : (n : Int) ≤ 1000 := by omega
  clear hv hm hmn
  go_enter Try.func3, Try.ntmps3
  go_wp2_with (first | (go_at_call 6; refine (awake_true _).mono ?_; rintro e w1 ⟨rfl, hf⟩; have HF := hid hf; clear hf) | still_step | (with_reducible refine wpStill_nil ?_) | (with_reducible refine Flow.Both.mk ?_ ?_) | (with_reducible exact True.intro) | (with_reducible refine Flow.same_mk rfl rfl rfl ?_; go_simp; done) | (with_reducible exact Flow.same_un rfl rfl rfl) | (with_reducible refine Flow.region_flow (id := 23) [0, 0, 2, 6, 15, 31, 63, 127, 255, 511, 255, 1279, 3327, 7423, 16383, 32767, 65535, 131071, 65535, 327679, 851967, 1900543, 4194303, 8388607, 16777215, 33554431, 67108863, 134217727, 268435455, 536870911, 1073741823, 1073741823, 4294967295, 8589934591, 17179869183] 2147483648 5645237020 [(0, none), (1, none), (2, none), (3, none), (4, none), (5, none), (6, none), (7, none), (8, none), (9, none), (10, none), (11, none), (12, none), (13, none), (14, none), (15, none), (16, none), (17, none), (18, none), (19, none), (20, none), (21, none), (22, none), (23, none), (24, none), (25, none), (26, none), (27, none), (28, none), (29, none), (30, none), (31, some [30]), (32, none), (33, none), (34, none)] mixed ?hB ?_; (case hB => decide +kernel); simp only [Flow.textOf, List.map_cons, List.map_nil, Option.map_none, Option.map_some, Array.getD_eq_getD_getElem?, List.getElem?_toArray, List.getElem?_cons_zero, List.getElem?_cons_succ, Option.getD_some, Flow.wpFl, Flow.SameAll]) | (refine Flow.region_still mixed ?hB ?_; (case hB => decide +kernel)))
  refine (new_yes n _ hn1 hn2).mono ?_
  rintro e w2 ⟨rfl, hb, hf⟩
  have hz1 := HF.out.size
  have HT := hid (⟨fun _ => False, fun _ => False, hb, OwnAt.nil _ _ _ _ _, fun _ h => h.elim, fun _ h => h.elim, hb.lt⟩ : Two w1.heap.size w2 w1.heap.size n [] [] none 0)
  have HF2 := hid (HF.out.trans hf (fun _ _ h => h))
  clear hb hf HF
  go_wp2_with (first | fail | still_step | (with_reducible refine wpStill_nil ?_) | (with_reducible refine Flow.Both.mk ?_ ?_) | (with_reducible exact True.intro) | (with_reducible refine Flow.same_mk rfl rfl rfl ?_; go_simp; done) | (with_reducible exact Flow.same_un rfl rfl rfl) | (with_reducible refine Flow.region_flow (id := 23) [0, 0, 2, 6, 15, 31, 63, 127, 255, 511, 255, 1279, 3327, 7423, 16383, 32767, 65535, 131071, 65535, 327679, 851967, 1900543, 4194303, 8388607, 16777215, 33554431, 67108863, 134217727, 268435455, 536870911, 1073741823, 1073741823, 4294967295, 8589934591, 17179869183] 2147483648 5645237020 [(0, none), (1, none), (2, none), (3, none), (4, none), (5, none), (6, none), (7, none), (8, none), (9, none), (10, none), (11, none), (12, none), (13, none), (14, none), (15, none), (16, none), (17, none), (18, none), (19, none), (20, none), (21, none), (22, none), (23, none), (24, none), (25, none), (26, none), (27, none), (28, none), (29, none), (30, none), (31, some [30]), (32, none), (33, none), (34, none)] mixed ?hB ?_; (case hB => decide +kernel); simp only [Flow.textOf, List.map_cons, List.map_nil, Option.map_none, Option.map_some, Array.getD_eq_getD_getElem?, List.getElem?_toArray, List.getElem?_cons_zero, List.getElem?_cons_succ, Option.getD_some, Flow.wpFl, Flow.SameAll]) | (refine Flow.region_still mixed ?hB ?_; (case hB => decide +kernel)))
  go_loopw [9, 10] (fun v i wr => ∃ k : Nat, k ≤ l.length ∧ i = .int .i64 k ∧ (∃ L a c X, v = .slice a L.length c ∧ Two X wr w1.heap.size n L L a c) ∧ Fr (fun k => w1.heap.size ≤ k) w wr) (fun _ i _ => l.length - (intOf i).toNat)
  case atStart => exact ⟨0, Nat.zero_le _, rfl, ⟨[], none, 0, _, rfl, HT.out⟩, HF2.out.mono (fun _ _ h => h.elim)⟩
  case round =>
    obtain ⟨k, hk, rfl, ⟨L, a, c, X, rfl, ht⟩, hf⟩ := hrel
    have hLn := ht.len
    have hB := ht.lt
    have HT3 := hid ht
    have HF3 := hid hf
    clear ht hf HT HF2
    by_cases hlt : k < l.length
    · have hne : stp l ≠ [] := fun h => by have := stp_length l; rw [h] at this; simp at this; omega
      obtain ⟨r0, off0, rfl, hr0', hc2⟩ := (HV.out.fr HF3.out (fun k h1 h2 => by (first | omega | (dsimp only at h ⊢; omega) | (dsimp only at h; omega) | (dsimp only; omega) | (simp at h ⊢; omega) | (simp at h; omega) | (rcases h with h | h <;> first | exact h.elim | (dsimp only at h ⊢; omega) | (dsimp only at h; omega) | omega)))).cell hne
      have c0 := hc2 (k * 3) _ (stp_get l k hlt).1
      have c1 : wr.cell? ⟨r0, off0 + k * 3 + 1, none⟩ = some (.int .i64 l[k].2.1) := hc2 (k * 3 + 1) _ (stp_get l k hlt).2.1
      have c2 : wr.cell? ⟨r0, off0 + k * 3 + 2, none⟩ = some (.int .i64 l[k].2.2) := hc2 (k * 3 + 2) _ (stp_get l k hlt).2.2
      have hr0l := World.block_lt_of_cell? _ _ c0
      dsimp only at hr0l
      generalize l[k].1 = x at *
      generalize l[k].2.1 = y at *
      generalize l[k].2.2 = z at *
      clear hc2 hne
      by_cases hx0 : x = 0
      · subst hx0
        by_cases hlen : L.length < n
        · -- CASE push
          have hd : decide (L.length < n) = true := by simpa using hlen
          have HD := hid hd
          clear hd
          go_wp2_with (first | fail | still_step | (with_reducible refine wpStill_nil ?_) | (with_reducible refine Flow.Both.mk ?_ ?_) | (with_reducible exact True.intro) | (with_reducible refine Flow.same_mk rfl rfl rfl ?_; go_simp; done) | (with_reducible exact Flow.same_un rfl rfl rfl) | (with_reducible refine Flow.region_flow (id := 23) [0, 0, 2, 6, 15, 31, 63, 127, 255, 511, 255, 1279, 3327, 7423, 16383, 32767, 65535, 131071, 65535, 327679, 851967, 1900543, 4194303, 8388607, 16777215, 33554431, 67108863, 134217727, 268435455, 536870911, 1073741823, 1073741823, 4294967295, 8589934591, 17179869183] 2147483648 5645237020 [(0, none), (1, none), (2, none), (3, none), (4, none), (5, none), (6, none), (7, none), (8, none), (9, none), (10, none), (11, none), (12, none), (13, none), (14, none), (15, none), (16, none), (17, none), (18, none), (19, none), (20, none), (21, none), (22, none), (23, none), (24, none), (25, none), (26, none), (27, none), (28, none), (29, none), (30, none), (31, some [30]), (32, none), (33, none), (34, none)] mixed ?hB ?_; (case hB => decide +kernel); simp only [Flow.textOf, List.map_cons, List.map_nil, Option.map_none, Option.map_some, Array.getD_eq_getD_getElem?, List.getElem?_toArray, List.getElem?_cons_zero, List.getElem?_cons_succ, Option.getD_some, Flow.wpFl, Flow.SameAll]) | (refine Flow.region_still mixed ?hB ?_; (case hB => decide +kernel)))
          go_at_call 8
          refine (two_push (X := wr.heap.size) (B := w1.heap.size) (n := n) (L1 := L) (L2 := L) (a := a) (c := c) _ _ ?ht).mono ?_
          case ht => exact HT3.out.box (by (repeat' (first | with_reducible exact Fr.refl _ _ | with_reducible apply Fr.alloc | with_reducible apply Fr.drew | with_reducible apply Fr.drewN | (with_reducible refine Fr.setCell ?_ ?_ _)))) (by simp)
          rintro e w4 ⟨rfl, ht, hf⟩
          rw [HD.out]
          rw [pushL, if_pos hlen] at ht
          have HT4 := hid ht
          have BX4 := hid ((Blk.new wr _ _).fr hf (by (first | omega | (dsimp only at h ⊢; omega) | (dsimp only at h; omega) | (dsimp only; omega) | (simp at h ⊢; omega) | (simp at h; omega) | (rcases h with h | h <;> first | exact h.elim | (dsimp only at h ⊢; omega) | (dsimp only at h; omega) | omega))))
          have HF4 := hid ((HF3.out.trans (S2 := fun _ => False) (show Fr (fun _ => False) wr _ by (repeat' (first | with_reducible exact Fr.refl _ _ | with_reducible apply Fr.alloc | with_reducible apply Fr.drew | with_reducible apply Fr.drewN | (with_reducible refine Fr.setCell ?_ ?_ _)))) (fun _ _ h => h.elim)).trans hf (fun k hk h => h.1))
          have b1 : w4.cell? ⟨wr.heap.size, 1, none⟩ = some (.int .i64 y) := (BX4.out.cell 1).trans rfl
          have b2 : w4.cell? ⟨wr.heap.size, 2, none⟩ = some (.int .i64 z) := (BX4.out.cell 2).trans rfl
          clear ht hf
          have h4f : Fr (fun _ => False) w4 (w4.alloc (.cells #[.int .i64 y, .int .i64 z] 33)) := by (repeat' (first | with_reducible exact Fr.refl _ _ | with_reducible apply Fr.alloc | with_reducible apply Fr.drew | with_reducible apply Fr.drewN | (with_reducible refine Fr.setCell ?_ ?_ _)))
          obtain ⟨R, Rr, h1, h2, h3, h4, h5⟩ := HT4.out.fr h4f
          have BX5 := hid (BX4.out.fr h4f (fun h => h))
          have HF5 := hid (HF4.out.trans h4f (fun _ _ h => h.elim))
          have HH := hid (⟨h1, h3, h4, h5⟩ : BufRep _ _ R _ _ ∧ _ ∧ _ ∧ _)
          have H2 := hid h2
          have hRx : ¬ Rr wr.heap.size := fun h => (h4 _ h).2.2 rfl
          clear h1 h2 h3 h4 h5 h4f
          obtain ⟨i0, hi, hz0, hz1', hz2⟩ := info_parts infoTE
          go_wp2_with (first | (at_builtin; refine wpList_append_Own _ rfl (.tmp 78) (.tmp 84) 27 rfl 33 i0 (.agg #[.int .i64 0, .int .i64 0]) 2 16 Try.underlying27 hi hz0 hz1' hz2 rfl (by decide) Rr (fun _ => True) a L.length c (ent L) rfl ?own (some ⟨w4.heap.size, 0, none⟩) 1 1 (ent [(y, z)]) rfl ?vw (ent_one _) ?b1 ?b2 ?grow) | still_step | (with_reducible refine wpStill_nil ?_) | (with_reducible refine Flow.Both.mk ?_ ?_) | (with_reducible exact True.intro) | (with_reducible refine Flow.same_mk rfl rfl rfl ?_; go_simp; done) | (with_reducible exact Flow.same_un rfl rfl rfl) | (with_reducible refine Flow.region_flow (id := 23) [0, 0, 2, 6, 15, 31, 63, 127, 255, 511, 255, 1279, 3327, 7423, 16383, 32767, 65535, 131071, 65535, 327679, 851967, 1900543, 4194303, 8388607, 16777215, 33554431, 67108863, 134217727, 268435455, 536870911, 1073741823, 1073741823, 4294967295, 8589934591, 17179869183] 2147483648 5645237020 [(0, none), (1, none), (2, none), (3, none), (4, none), (5, none), (6, none), (7, none), (8, none), (9, none), (10, none), (11, none), (12, none), (13, none), (14, none), (15, none), (16, none), (17, none), (18, none), (19, none), (20, none), (21, none), (22, none), (23, none), (24, none), (25, none), (26, none), (27, none), (28, none), (29, none), (30, none), (31, some [30]), (32, none), (33, none), (34, none)] mixed ?hB ?_; (case hB => decide +kernel); simp only [Flow.textOf, List.map_cons, List.map_nil, Option.map_none, Option.map_some, Array.getD_eq_getD_getElem?, List.getElem?_toArray, List.getElem?_cons_zero, List.getElem?_cons_succ, Option.getD_some, Flow.wpFl, Flow.SameAll]) | (refine Flow.region_still mixed ?hB ?_; (case hB => decide +kernel)))
          case own => exact H2.out
          case vw => exact Vw.of_blk (C := #[.int .i64 y, .int .i64 z]) (by simpa using (Blk.new w4 #[.int .i64 y, .int .i64 z] 33)) trivial (by simp)
          case b1 => unfold maxLen; omega
          case b2 => omega
          case grow =>
            intro a' c' w6 ho hf
            have BX6 := hid (BX5.out.fr hf hRx)
            have h6 := two_app HH.out.1 HH.out.2.1 HH.out.2.2.1 HH.out.2.2.2 (a' := a') (c' := c') (e := (y, z)) (by simpa using ho) hf
            have HT6 := hid h6.1
            have HF6 := hid (HF5.out.trans h6.2 (fun k hk h => h.1))
            have hll : (L ++ [(y, z)]).length = L.length + 1 := by simp
            rw [← hll]
            clear ho hf h6 hll
            generalize L ++ [(y, z)] = L' at *
            have b1 : w6.cell? ⟨wr.heap.size, 1, none⟩ = some (.int .i64 y) := (BX6.out.cell 1).trans rfl
            have hL9 := (Two.len HT6.out).1
            have hbx := BX6.out.lt
            go_wp2_with (first | (go_at_call 11; refine (two_get (X := wr.heap.size) (B := w1.heap.size) (n := n) (L1 := L') (L2 := L') (a := a') (c := c') _ ?ht).mono ?_; (case ht => exact HT6.out.fr (by (repeat' (first | with_reducible exact Fr.refl _ _ | with_reducible apply Fr.alloc | with_reducible apply Fr.drew | with_reducible apply Fr.drewN | (with_reducible refine Fr.setCell ?_ ?_ _))))); rintro e w10 ⟨rfl, ht, hf⟩; have HT10 := hid ht; have hf2 : Fr (fun _ => False) w6 w10 := (show Fr (fun _ => False) w6 _ by (repeat' (first | with_reducible exact Fr.refl _ _ | with_reducible apply Fr.alloc | with_reducible apply Fr.drew | with_reducible apply Fr.drewN | (with_reducible refine Fr.setCell ?_ ?_ _)))).trans hf (fun _ _ h => h); have HF10 := hid (HF6.out.trans hf2 (fun k hk h => h.elim)); have b10 : w10.cell? ⟨wr.heap.size, 1, none⟩ = some (.int .i64 y) := hf2.cell b1 (fun h => h); clear ht hf hf2) | (go_at_call 12; refine (two_rget (X := wr.heap.size) (B := w1.heap.size) (n := n) (L1 := L') (L2 := L') (a := a') (c := c') _ HT10.out (by omega)).mono ?_; rintro e w' ⟨rfl, rfl⟩) | (go_at_call 13; refine (two_same (X := wr.heap.size) (B := w1.heap.size) (n := n) (L1 := L') (a := a') (c := c') HT10.out).mono ?_; rintro e w11 ⟨rfl, ht, hf⟩; have HT11 := hid ht; have HF11 := hid (HF10.out.trans hf (fun k hk h => h.elim)); clear ht hf) | still_step | (with_reducible refine wpStill_nil ?_) | (with_reducible refine Flow.Both.mk ?_ ?_) | (with_reducible exact True.intro) | (with_reducible refine Flow.same_mk rfl rfl rfl ?_; go_simp; done) | (with_reducible exact Flow.same_un rfl rfl rfl) | (with_reducible refine Flow.region_flow (id := 23) [0, 0, 2, 6, 15, 31, 63, 127, 255, 511, 255, 1279, 3327, 7423, 16383, 32767, 65535, 131071, 65535, 327679, 851967, 1900543, 4194303, 8388607, 16777215, 33554431, 67108863, 134217727, 268435455, 536870911, 1073741823, 1073741823, 4294967295, 8589934591, 17179869183] 2147483648 5645237020 [(0, none), (1, none), (2, none), (3, none), (4, none), (5, none), (6, none), (7, none), (8, none), (9, none), (10, none), (11, none), (12, none), (13, none), (14, none), (15, none), (16, none), (17, none), (18, none), (19, none), (20, none), (21, none), (22, none), (23, none), (24, none), (25, none), (26, none), (27, none), (28, none), (29, none), (30, none), (31, some [30]), (32, none), (33, none), (34, none)] mixed ?hB ?_; (case hB => decide +kernel); simp only [Flow.textOf, List.map_cons, List.map_nil, Option.map_none, Option.map_some, Array.getD_eq_getD_getElem?, List.getElem?_toArray, List.getElem?_cons_zero, List.getElem?_cons_succ, Option.getD_some, Flow.wpFl, Flow.SameAll]) | (refine Flow.region_still mixed ?hB ?_; (case hB => decide +kernel)))
            go_roundw
            case rel =>
              have hrl : ∃ k_1 : Nat, k_1 ≤ l.length ∧ (Value.int .i64 ((k : Int) + 1)) = .int .i64 k_1 ∧ (∃ Lq aq cq Xq, (Value.slice a' (L').length c') = .slice aq Lq.length cq ∧ Two Xq w11 w1.heap.size n Lq Lq aq cq) ∧ Fr (fun k => w1.heap.size ≤ k) w w11 :=
                ⟨k + 1, by omega, by go_num, ⟨_, _, _, _, rfl, HT11.out⟩, HF11.out⟩
              first | exact hrl | ((repeat apply Exists.intro); exact ⟨hrl, rfl⟩)
            case measure => simp [intOf]; omega
        · -- CASE full
          have hd : decide (L.length < n) = false := by simpa using hlen
          have HD := hid hd
          clear hd
          go_wp2_with (first | fail | still_step | (with_reducible refine wpStill_nil ?_) | (with_reducible refine Flow.Both.mk ?_ ?_) | (with_reducible exact True.intro) | (with_reducible refine Flow.same_mk rfl rfl rfl ?_; go_simp; done) | (with_reducible exact Flow.same_un rfl rfl rfl) | (with_reducible refine Flow.region_flow (id := 23) [0, 0, 2, 6, 15, 31, 63, 127, 255, 511, 255, 1279, 3327, 7423, 16383, 32767, 65535, 131071, 65535, 327679, 851967, 1900543, 4194303, 8388607, 16777215, 33554431, 67108863, 134217727, 268435455, 536870911, 1073741823, 1073741823, 4294967295, 8589934591, 17179869183] 2147483648 5645237020 [(0, none), (1, none), (2, none), (3, none), (4, none), (5, none), (6, none), (7, none), (8, none), (9, none), (10, none), (11, none), (12, none), (13, none), (14, none), (15, none), (16, none), (17, none), (18, none), (19, none), (20, none), (21, none), (22, none), (23, none), (24, none), (25, none), (26, none), (27, none), (28, none), (29, none), (30, none), (31, some [30]), (32, none), (33, none), (34, none)] mixed ?hB ?_; (case hB => decide +kernel); simp only [Flow.textOf, List.map_cons, List.map_nil, Option.map_none, Option.map_some, Array.getD_eq_getD_getElem?, List.getElem?_toArray, List.getElem?_cons_zero, List.getElem?_cons_succ, Option.getD_some, Flow.wpFl, Flow.SameAll]) | (refine Flow.region_still mixed ?hB ?_; (case hB => decide +kernel)))
          go_at_call 8
          refine (two_push (X := wr.heap.size) (B := w1.heap.size) (n := n) (L1 := L) (L2 := L) (a := a) (c := c) _ _ ?ht).mono ?_
          case ht => exact HT3.out.box (by (repeat' (first | with_reducible exact Fr.refl _ _ | with_reducible apply Fr.alloc | with_reducible apply Fr.drew | with_reducible apply Fr.drewN | (with_reducible refine Fr.setCell ?_ ?_ _)))) (by simp)
          rintro e w4 ⟨rfl, ht, hf⟩
          rw [HD.out]
          rw [pushL, if_neg hlen] at ht
          have HT4 := hid ht
          have BX4 := hid ((Blk.new wr _ _).fr hf (by (first | omega | (dsimp only at h ⊢; omega) | (dsimp only at h; omega) | (dsimp only; omega) | (simp at h ⊢; omega) | (simp at h; omega) | (rcases h with h | h <;> first | exact h.elim | (dsimp only at h ⊢; omega) | (dsimp only at h; omega) | omega))))
          have HF4 := hid ((HF3.out.trans (S2 := fun _ => False) (show Fr (fun _ => False) wr _ by (repeat' (first | with_reducible exact Fr.refl _ _ | with_reducible apply Fr.alloc | with_reducible apply Fr.drew | with_reducible apply Fr.drewN | (with_reducible refine Fr.setCell ?_ ?_ _)))) (fun _ _ h => h.elim)).trans hf (fun k hk h => h.1))
          clear ht hf
          have b1 : w4.cell? ⟨wr.heap.size, 1, none⟩ = some (.int .i64 y) := (BX4.out.cell 1).trans rfl
          have hL9 := (Two.len HT4.out).1
          have hbx := BX4.out.lt
          go_wp2_with (first | (go_at_call 11; refine (two_get (X := wr.heap.size) (B := w1.heap.size) (n := n) (L1 := L) (L2 := L) (a := a) (c := c) _ ?ht).mono ?_; (case ht => exact HT4.out.fr (by (repeat' (first | with_reducible exact Fr.refl _ _ | with_reducible apply Fr.alloc | with_reducible apply Fr.drew | with_reducible apply Fr.drewN | (with_reducible refine Fr.setCell ?_ ?_ _))))); rintro e w10 ⟨rfl, ht, hf⟩; have HT10 := hid ht; have hf2 : Fr (fun _ => False) w4 w10 := (show Fr (fun _ => False) w4 _ by (repeat' (first | with_reducible exact Fr.refl _ _ | with_reducible apply Fr.alloc | with_reducible apply Fr.drew | with_reducible apply Fr.drewN | (with_reducible refine Fr.setCell ?_ ?_ _)))).trans hf (fun _ _ h => h); have HF10 := hid (HF4.out.trans hf2 (fun k hk h => h.elim)); have b10 : w10.cell? ⟨wr.heap.size, 1, none⟩ = some (.int .i64 y) := hf2.cell b1 (fun h => h); clear ht hf hf2) | (go_at_call 12; refine (two_rget (X := wr.heap.size) (B := w1.heap.size) (n := n) (L1 := L) (L2 := L) (a := a) (c := c) _ HT10.out (by omega)).mono ?_; rintro e w' ⟨rfl, rfl⟩) | (go_at_call 13; refine (two_same (X := wr.heap.size) (B := w1.heap.size) (n := n) (L1 := L) (a := a) (c := c) HT10.out).mono ?_; rintro e w11 ⟨rfl, ht, hf⟩; have HT11 := hid ht; have HF11 := hid (HF10.out.trans hf (fun k hk h => h.elim)); clear ht hf) | still_step | (with_reducible refine wpStill_nil ?_) | (with_reducible refine Flow.Both.mk ?_ ?_) | (with_reducible exact True.intro) | (with_reducible refine Flow.same_mk rfl rfl rfl ?_; go_simp; done) | (with_reducible exact Flow.same_un rfl rfl rfl) | (with_reducible refine Flow.region_flow (id := 23) [0, 0, 2, 6, 15, 31, 63, 127, 255, 511, 255, 1279, 3327, 7423, 16383, 32767, 65535, 131071, 65535, 327679, 851967, 1900543, 4194303, 8388607, 16777215, 33554431, 67108863, 134217727, 268435455, 536870911, 1073741823, 1073741823, 4294967295, 8589934591, 17179869183] 2147483648 5645237020 [(0, none), (1, none), (2, none), (3, none), (4, none), (5, none), (6, none), (7, none), (8, none), (9, none), (10, none), (11, none), (12, none), (13, none), (14, none), (15, none), (16, none), (17, none), (18, none), (19, none), (20, none), (21, none), (22, none), (23, none), (24, none), (25, none), (26, none), (27, none), (28, none), (29, none), (30, none), (31, some [30]), (32, none), (33, none), (34, none)] mixed ?hB ?_; (case hB => decide +kernel); simp only [Flow.textOf, List.map_cons, List.map_nil, Option.map_none, Option.map_some, Array.getD_eq_getD_getElem?, List.getElem?_toArray, List.getElem?_cons_zero, List.getElem?_cons_succ, Option.getD_some, Flow.wpFl, Flow.SameAll]) | (refine Flow.region_still mixed ?hB ?_; (case hB => decide +kernel)))
          go_roundw
          case rel =>
            have hrl : ∃ k_1 : Nat, k_1 ≤ l.length ∧ (Value.int .i64 ((k : Int) + 1)) = .int .i64 k_1 ∧ (∃ Lq aq cq Xq, (Value.slice a (L).length c) = .slice aq Lq.length cq ∧ Two Xq w11 w1.heap.size n Lq Lq aq cq) ∧ Fr (fun k => w1.heap.size ≤ k) w w11 :=
              ⟨k + 1, by omega, by go_num, ⟨_, _, _, _, rfl, HT11.out⟩, HF11.out⟩
            first | exact hrl | ((repeat apply Exists.intro); exact ⟨hrl, rfl⟩)
          case measure => simp [intOf]; omega
      · by_cases hx1 : x = 1
        · subst hx1
          cases L with
          | nil =>
            -- CASE empty
            go_wp2_with (first | fail | still_step | (with_reducible refine wpStill_nil ?_) | (with_reducible refine Flow.Both.mk ?_ ?_) | (with_reducible exact True.intro) | (with_reducible refine Flow.same_mk rfl rfl rfl ?_; go_simp; done) | (with_reducible exact Flow.same_un rfl rfl rfl) | (with_reducible refine Flow.region_flow (id := 23) [0, 0, 2, 6, 15, 31, 63, 127, 255, 511, 255, 1279, 3327, 7423, 16383, 32767, 65535, 131071, 65535, 327679, 851967, 1900543, 4194303, 8388607, 16777215, 33554431, 67108863, 134217727, 268435455, 536870911, 1073741823, 1073741823, 4294967295, 8589934591, 17179869183] 2147483648 5645237020 [(0, none), (1, none), (2, none), (3, none), (4, none), (5, none), (6, none), (7, none), (8, none), (9, none), (10, none), (11, none), (12, none), (13, none), (14, none), (15, none), (16, none), (17, none), (18, none), (19, none), (20, none), (21, none), (22, none), (23, none), (24, none), (25, none), (26, none), (27, none), (28, none), (29, none), (30, none), (31, some [30]), (32, none), (33, none), (34, none)] mixed ?hB ?_; (case hB => decide +kernel); simp only [Flow.textOf, List.map_cons, List.map_nil, Option.map_none, Option.map_some, Array.getD_eq_getD_getElem?, List.getElem?_toArray, List.getElem?_cons_zero, List.getElem?_cons_succ, Option.getD_some, Flow.wpFl, Flow.SameAll]) | (refine Flow.region_still mixed ?hB ?_; (case hB => decide +kernel)))
            go_at_call 9
            refine (two_pop (X := wr.heap.size) (B := w1.heap.size) (n := n) (L1 := []) (L2 := []) (a := a) (c := c) ?ht).mono ?_
            case ht => exact HT3.out.box (by (repeat' (first | with_reducible exact Fr.refl _ _ | with_reducible apply Fr.alloc | with_reducible apply Fr.drew | with_reducible apply Fr.drewN | (with_reducible refine Fr.setCell ?_ ?_ _)))) (by simp)
            rintro e w4 ⟨rfl, ht, hf⟩
            have BX4 := hid ((Blk.new wr _ _).fr hf (by (first | omega | (dsimp only at h ⊢; omega) | (dsimp only at h; omega) | (dsimp only; omega) | (simp at h ⊢; omega) | (simp at h; omega) | (rcases h with h | h <;> first | exact h.elim | (dsimp only at h ⊢; omega) | (dsimp only at h; omega) | omega))))
            have HF4 := hid ((HF3.out.trans (S2 := fun _ => False) (show Fr (fun _ => False) wr _ by (repeat' (first | with_reducible exact Fr.refl _ _ | with_reducible apply Fr.alloc | with_reducible apply Fr.drew | with_reducible apply Fr.drewN | (with_reducible refine Fr.setCell ?_ ?_ _)))) (fun _ _ h => h.elim)).trans hf (fun k hk h => h.1))
            have HT4 := hid ht
            clear ht hf
            rw [show decide (0 < ([] : List (Int × Int)).length) = false from rfl]
            dsimp only [headL]
            have b1 : w4.cell? ⟨wr.heap.size, 1, none⟩ = some (.int .i64 y) := (BX4.out.cell 1).trans rfl
            have hL9 := (Two.len HT4.out).1
            have hbx := BX4.out.lt
            go_wp2_with (first | (go_at_call 11; refine (two_get (X := wr.heap.size) (B := w1.heap.size) (n := n) (L1 := []) (L2 := []) (a := a) (c := c) _ ?ht).mono ?_; (case ht => exact HT4.out.fr (by (repeat' (first | with_reducible exact Fr.refl _ _ | with_reducible apply Fr.alloc | with_reducible apply Fr.drew | with_reducible apply Fr.drewN | (with_reducible refine Fr.setCell ?_ ?_ _))))); rintro e w10 ⟨rfl, ht, hf⟩; have HT10 := hid ht; have hf2 : Fr (fun _ => False) w4 w10 := (show Fr (fun _ => False) w4 _ by (repeat' (first | with_reducible exact Fr.refl _ _ | with_reducible apply Fr.alloc | with_reducible apply Fr.drew | with_reducible apply Fr.drewN | (with_reducible refine Fr.setCell ?_ ?_ _)))).trans hf (fun _ _ h => h); have HF10 := hid (HF4.out.trans hf2 (fun k hk h => h.elim)); have b10 : w10.cell? ⟨wr.heap.size, 1, none⟩ = some (.int .i64 y) := hf2.cell b1 (fun h => h); clear ht hf hf2) | (go_at_call 12; refine (two_rget (X := wr.heap.size) (B := w1.heap.size) (n := n) (L1 := []) (L2 := []) (a := a) (c := c) _ HT10.out (by omega)).mono ?_; rintro e w' ⟨rfl, rfl⟩) | (go_at_call 13; refine (two_same (X := wr.heap.size) (B := w1.heap.size) (n := n) (L1 := []) (a := a) (c := c) HT10.out).mono ?_; rintro e w11 ⟨rfl, ht, hf⟩; have HT11 := hid ht; have HF11 := hid (HF10.out.trans hf (fun k hk h => h.elim)); clear ht hf) | still_step | (with_reducible refine wpStill_nil ?_) | (with_reducible refine Flow.Both.mk ?_ ?_) | (with_reducible exact True.intro) | (with_reducible refine Flow.same_mk rfl rfl rfl ?_; go_simp; done) | (with_reducible exact Flow.same_un rfl rfl rfl) | (with_reducible refine Flow.region_flow (id := 23) [0, 0, 2, 6, 15, 31, 63, 127, 255, 511, 255, 1279, 3327, 7423, 16383, 32767, 65535, 131071, 65535, 327679, 851967, 1900543, 4194303, 8388607, 16777215, 33554431, 67108863, 134217727, 268435455, 536870911, 1073741823, 1073741823, 4294967295, 8589934591, 17179869183] 2147483648 5645237020 [(0, none), (1, none), (2, none), (3, none), (4, none), (5, none), (6, none), (7, none), (8, none), (9, none), (10, none), (11, none), (12, none), (13, none), (14, none), (15, none), (16, none), (17, none), (18, none), (19, none), (20, none), (21, none), (22, none), (23, none), (24, none), (25, none), (26, none), (27, none), (28, none), (29, none), (30, none), (31, some [30]), (32, none), (33, none), (34, none)] mixed ?hB ?_; (case hB => decide +kernel); simp only [Flow.textOf, List.map_cons, List.map_nil, Option.map_none, Option.map_some, Array.getD_eq_getD_getElem?, List.getElem?_toArray, List.getElem?_cons_zero, List.getElem?_cons_succ, Option.getD_some, Flow.wpFl, Flow.SameAll]) | (refine Flow.region_still mixed ?hB ?_; (case hB => decide +kernel)))
            go_roundw
            case rel =>
              have hrl : ∃ k_1 : Nat, k_1 ≤ l.length ∧ (Value.int .i64 ((k : Int) + 1)) = .int .i64 k_1 ∧ (∃ Lq aq cq Xq, (Value.slice a ([]).length c) = .slice aq Lq.length cq ∧ Two Xq w11 w1.heap.size n Lq Lq aq cq) ∧ Fr (fun k => w1.heap.size ≤ k) w w11 :=
                ⟨k + 1, by omega, by go_num, ⟨_, _, _, _, rfl, HT11.out⟩, HF11.out⟩
              first | exact hrl | ((repeat apply Exists.intro); exact ⟨hrl, rfl⟩)
            case measure => simp [intOf]; omega
          | cons e L =>
            -- CASE pop
            obtain ⟨ex, ey⟩ := e
            go_wp2_with (first | fail | still_step | (with_reducible refine wpStill_nil ?_) | (with_reducible refine Flow.Both.mk ?_ ?_) | (with_reducible exact True.intro) | (with_reducible refine Flow.same_mk rfl rfl rfl ?_; go_simp; done) | (with_reducible exact Flow.same_un rfl rfl rfl) | (with_reducible refine Flow.region_flow (id := 23) [0, 0, 2, 6, 15, 31, 63, 127, 255, 511, 255, 1279, 3327, 7423, 16383, 32767, 65535, 131071, 65535, 327679, 851967, 1900543, 4194303, 8388607, 16777215, 33554431, 67108863, 134217727, 268435455, 536870911, 1073741823, 1073741823, 4294967295, 8589934591, 17179869183] 2147483648 5645237020 [(0, none), (1, none), (2, none), (3, none), (4, none), (5, none), (6, none), (7, none), (8, none), (9, none), (10, none), (11, none), (12, none), (13, none), (14, none), (15, none), (16, none), (17, none), (18, none), (19, none), (20, none), (21, none), (22, none), (23, none), (24, none), (25, none), (26, none), (27, none), (28, none), (29, none), (30, none), (31, some [30]), (32, none), (33, none), (34, none)] mixed ?hB ?_; (case hB => decide +kernel); simp only [Flow.textOf, List.map_cons, List.map_nil, Option.map_none, Option.map_some, Array.getD_eq_getD_getElem?, List.getElem?_toArray, List.getElem?_cons_zero, List.getElem?_cons_succ, Option.getD_some, Flow.wpFl, Flow.SameAll]) | (refine Flow.region_still mixed ?hB ?_; (case hB => decide +kernel)))
            go_at_call 9
            refine (two_pop (X := wr.heap.size) (B := w1.heap.size) (n := n) (L1 := (ex, ey) :: L) (L2 := (ex, ey) :: L) (a := a) (c := c) ?ht).mono ?_
            case ht => exact HT3.out.box (by (repeat' (first | with_reducible exact Fr.refl _ _ | with_reducible apply Fr.alloc | with_reducible apply Fr.drew | with_reducible apply Fr.drewN | (with_reducible refine Fr.setCell ?_ ?_ _)))) (by simp)
            rintro e w4 ⟨rfl, ht, hf⟩
            have BX4 := hid ((Blk.new wr _ _).fr hf (by (first | omega | (dsimp only at h ⊢; omega) | (dsimp only at h; omega) | (dsimp only; omega) | (simp at h ⊢; omega) | (simp at h; omega) | (rcases h with h | h <;> first | exact h.elim | (dsimp only at h ⊢; omega) | (dsimp only at h; omega) | omega))))
            have HF4 := hid ((HF3.out.trans (S2 := fun _ => False) (show Fr (fun _ => False) wr _ by (repeat' (first | with_reducible exact Fr.refl _ _ | with_reducible apply Fr.alloc | with_reducible apply Fr.drew | with_reducible apply Fr.drewN | (with_reducible refine Fr.setCell ?_ ?_ _)))) (fun _ _ h => h.elim)).trans hf (fun k hk h => h.1))
            obtain ⟨Rr, hv, hlt2⟩ := ht.vw
            obtain ⟨rl, offl, rfl, hrl, hcl⟩ := hv.cell (by simp [ent])
            have l0 : w4.cell? ⟨rl, offl, none⟩ = some (.int .i64 ex) := hcl 0 _ (by simp [ent])
            have l1 : w4.cell? ⟨rl, offl + 1, none⟩ = some (.int .i64 ey) := hcl 1 _ (by simp [ent])
            have hll := hlt2 _ hrl
            have ht2 := ht.tail
            clear ht hf hv hlt2 hcl hrl
            rw [show decide (0 < ((ex, ey) :: L).length) = true from by simp]
            dsimp only [headL]
            by_cases hc1 : c = 1
            · subst hc1
              rw [if_pos rfl] at ht2
              have HT4 : Hid (Two wr.heap.size w4 w1.heap.size n L L (some ⟨rl, offl, none⟩) 0) := hid ht2
              clear ht2
              have b1 : w4.cell? ⟨wr.heap.size, 1, none⟩ = some (.int .i64 y) := (BX4.out.cell 1).trans rfl
              have hL9 := (Two.len HT4.out).1
              have hbx := BX4.out.lt
              go_wp2_with (first | (go_at_call 11; refine (two_get (X := wr.heap.size) (B := w1.heap.size) (n := n) (L1 := L) (L2 := L) (a := (some ⟨rl, offl, none⟩)) (c := 0) _ ?ht).mono ?_; (case ht => exact HT4.out.fr (by (repeat' (first | with_reducible exact Fr.refl _ _ | with_reducible apply Fr.alloc | with_reducible apply Fr.drew | with_reducible apply Fr.drewN | (with_reducible refine Fr.setCell ?_ ?_ _))))); rintro e w10 ⟨rfl, ht, hf⟩; have HT10 := hid ht; have hf2 : Fr (fun _ => False) w4 w10 := (show Fr (fun _ => False) w4 _ by (repeat' (first | with_reducible exact Fr.refl _ _ | with_reducible apply Fr.alloc | with_reducible apply Fr.drew | with_reducible apply Fr.drewN | (with_reducible refine Fr.setCell ?_ ?_ _)))).trans hf (fun _ _ h => h); have HF10 := hid (HF4.out.trans hf2 (fun k hk h => h.elim)); have b10 : w10.cell? ⟨wr.heap.size, 1, none⟩ = some (.int .i64 y) := hf2.cell b1 (fun h => h); clear ht hf hf2) | (go_at_call 12; refine (two_rget (X := wr.heap.size) (B := w1.heap.size) (n := n) (L1 := L) (L2 := L) (a := (some ⟨rl, offl, none⟩)) (c := 0) _ HT10.out (by omega)).mono ?_; rintro e w' ⟨rfl, rfl⟩) | (go_at_call 13; refine (two_same (X := wr.heap.size) (B := w1.heap.size) (n := n) (L1 := L) (a := (some ⟨rl, offl, none⟩)) (c := 0) HT10.out).mono ?_; rintro e w11 ⟨rfl, ht, hf⟩; have HT11 := hid ht; have HF11 := hid (HF10.out.trans hf (fun k hk h => h.elim)); clear ht hf) | still_step | (with_reducible refine wpStill_nil ?_) | (with_reducible refine Flow.Both.mk ?_ ?_) | (with_reducible exact True.intro) | (with_reducible refine Flow.same_mk rfl rfl rfl ?_; go_simp; done) | (with_reducible exact Flow.same_un rfl rfl rfl) | (with_reducible refine Flow.region_flow (id := 23) [0, 0, 2, 6, 15, 31, 63, 127, 255, 511, 255, 1279, 3327, 7423, 16383, 32767, 65535, 131071, 65535, 327679, 851967, 1900543, 4194303, 8388607, 16777215, 33554431, 67108863, 134217727, 268435455, 536870911, 1073741823, 1073741823, 4294967295, 8589934591, 17179869183] 2147483648 5645237020 [(0, none), (1, none), (2, none), (3, none), (4, none), (5, none), (6, none), (7, none), (8, none), (9, none), (10, none), (11, none), (12, none), (13, none), (14, none), (15, none), (16, none), (17, none), (18, none), (19, none), (20, none), (21, none), (22, none), (23, none), (24, none), (25, none), (26, none), (27, none), (28, none), (29, none), (30, none), (31, some [30]), (32, none), (33, none), (34, none)] mixed ?hB ?_; (case hB => decide +kernel); simp only [Flow.textOf, List.map_cons, List.map_nil, Option.map_none, Option.map_some, Array.getD_eq_getD_getElem?, List.getElem?_toArray, List.getElem?_cons_zero, List.getElem?_cons_succ, Option.getD_some, Flow.wpFl, Flow.SameAll]) | (refine Flow.region_still mixed ?hB ?_; (case hB => decide +kernel)))
              go_roundw
              case rel =>
                have hrl : ∃ k_1 : Nat, k_1 ≤ l.length ∧ (Value.int .i64 ((k : Int) + 1)) = .int .i64 k_1 ∧ (∃ Lq aq cq Xq, (Value.slice (some ⟨rl, offl, none⟩) (L).length 0) = .slice aq Lq.length cq ∧ Two Xq w11 w1.heap.size n Lq Lq aq cq) ∧ Fr (fun k => w1.heap.size ≤ k) w w11 :=
                  ⟨k + 1, by omega, by go_num, ⟨_, _, _, _, rfl, HT11.out⟩, HF11.out⟩
                first | exact hrl | ((repeat apply Exists.intro); exact ⟨hrl, rfl⟩)
              case measure => simp [intOf]; omega
            · rw [if_neg hc1] at ht2
              have HT4 : Hid (Two wr.heap.size w4 w1.heap.size n L L (some ⟨rl, offl + 2, none⟩) (c - 1)) := hid ht2
              clear ht2
              have b1 : w4.cell? ⟨wr.heap.size, 1, none⟩ = some (.int .i64 y) := (BX4.out.cell 1).trans rfl
              have hL9 := (Two.len HT4.out).1
              have hbx := BX4.out.lt
              go_wp2_with (first | (go_at_call 11; refine (two_get (X := wr.heap.size) (B := w1.heap.size) (n := n) (L1 := L) (L2 := L) (a := (some ⟨rl, offl + 2, none⟩)) (c := (c - 1)) _ ?ht).mono ?_; (case ht => exact HT4.out.fr (by (repeat' (first | with_reducible exact Fr.refl _ _ | with_reducible apply Fr.alloc | with_reducible apply Fr.drew | with_reducible apply Fr.drewN | (with_reducible refine Fr.setCell ?_ ?_ _))))); rintro e w10 ⟨rfl, ht, hf⟩; have HT10 := hid ht; have hf2 : Fr (fun _ => False) w4 w10 := (show Fr (fun _ => False) w4 _ by (repeat' (first | with_reducible exact Fr.refl _ _ | with_reducible apply Fr.alloc | with_reducible apply Fr.drew | with_reducible apply Fr.drewN | (with_reducible refine Fr.setCell ?_ ?_ _)))).trans hf (fun _ _ h => h); have HF10 := hid (HF4.out.trans hf2 (fun k hk h => h.elim)); have b10 : w10.cell? ⟨wr.heap.size, 1, none⟩ = some (.int .i64 y) := hf2.cell b1 (fun h => h); clear ht hf hf2) | (go_at_call 12; refine (two_rget (X := wr.heap.size) (B := w1.heap.size) (n := n) (L1 := L) (L2 := L) (a := (some ⟨rl, offl + 2, none⟩)) (c := (c - 1)) _ HT10.out (by omega)).mono ?_; rintro e w' ⟨rfl, rfl⟩) | (go_at_call 13; refine (two_same (X := wr.heap.size) (B := w1.heap.size) (n := n) (L1 := L) (a := (some ⟨rl, offl + 2, none⟩)) (c := (c - 1)) HT10.out).mono ?_; rintro e w11 ⟨rfl, ht, hf⟩; have HT11 := hid ht; have HF11 := hid (HF10.out.trans hf (fun k hk h => h.elim)); clear ht hf) | still_step | (with_reducible refine wpStill_nil ?_) | (with_reducible refine Flow.Both.mk ?_ ?_) | (with_reducible exact True.intro) | (with_reducible refine Flow.same_mk rfl rfl rfl ?_; go_simp; done) | (with_reducible exact Flow.same_un rfl rfl rfl) | (with_reducible refine Flow.region_flow (id := 23) [0, 0, 2, 6, 15, 31, 63, 127, 255, 511, 255, 1279, 3327, 7423, 16383, 32767, 65535, 131071, 65535, 327679, 851967, 1900543, 4194303, 8388607, 16777215, 33554431, 67108863, 134217727, 268435455, 536870911, 1073741823, 1073741823, 4294967295, 8589934591, 17179869183] 2147483648 5645237020 [(0, none), (1, none), (2, none), (3, none), (4, none), (5, none), (6, none), (7, none), (8, none), (9, none), (10, none), (11, none), (12, none), (13, none), (14, none), (15, none), (16, none), (17, none), (18, none), (19, none), (20, none), (21, none), (22, none), (23, none), (24, none), (25, none), (26, none), (27, none), (28, none), (29, none), (30, none), (31, some [30]), (32, none), (33, none), (34, none)] mixed ?hB ?_; (case hB => decide +kernel); simp only [Flow.textOf, List.map_cons, List.map_nil, Option.map_none, Option.map_some, Array.getD_eq_getD_getElem?, List.getElem?_toArray, List.getElem?_cons_zero, List.getElem?_cons_succ, Option.getD_some, Flow.wpFl, Flow.SameAll]) | (refine Flow.region_still mixed ?hB ?_; (case hB => decide +kernel)))
              go_roundw
              case rel =>
                have hrl : ∃ k_1 : Nat, k_1 ≤ l.length ∧ (Value.int .i64 ((k : Int) + 1)) = .int .i64 k_1 ∧ (∃ Lq aq cq Xq, (Value.slice (some ⟨rl, offl + 2, none⟩) (L).length (c - 1)) = .slice aq Lq.length cq ∧ Two Xq w11 w1.heap.size n Lq Lq aq cq) ∧ Fr (fun k => w1.heap.size ≤ k) w w11 :=
                  ⟨k + 1, by omega, by go_num, ⟨_, _, _, _, rfl, HT11.out⟩, HF11.out⟩
                first | exact hrl | ((repeat apply Exists.intro); exact ⟨hrl, rfl⟩)
              case measure => simp [intOf]; omega
        · by_cases hx2 : x = 2
          · subst hx2
            by_cases hy : y < 0
            · -- CASE neg
              have hmn : ∀ w, (Builtin.min_ #[3, 3] 3 #[.int .i64 (L.length : Int), .int .i64 0]).run Try.prog w = .ok (.int .i64 0) w := fun w => run_min2_nat (P := Try.prog) #[3, 3] 3 L.length 0 0 (by omega) w
              go_wp2_with (first | fail | still_step | (with_reducible refine wpStill_nil ?_) | (with_reducible refine Flow.Both.mk ?_ ?_) | (with_reducible exact True.intro) | (with_reducible refine Flow.same_mk rfl rfl rfl ?_; go_simp; done) | (with_reducible exact Flow.same_un rfl rfl rfl) | (with_reducible refine Flow.region_flow (id := 23) [0, 0, 2, 6, 15, 31, 63, 127, 255, 511, 255, 1279, 3327, 7423, 16383, 32767, 65535, 131071, 65535, 327679, 851967, 1900543, 4194303, 8388607, 16777215, 33554431, 67108863, 134217727, 268435455, 536870911, 1073741823, 1073741823, 4294967295, 8589934591, 17179869183] 2147483648 5645237020 [(0, none), (1, none), (2, none), (3, none), (4, none), (5, none), (6, none), (7, none), (8, none), (9, none), (10, none), (11, none), (12, none), (13, none), (14, none), (15, none), (16, none), (17, none), (18, none), (19, none), (20, none), (21, none), (22, none), (23, none), (24, none), (25, none), (26, none), (27, none), (28, none), (29, none), (30, none), (31, some [30]), (32, none), (33, none), (34, none)] mixed ?hB ?_; (case hB => decide +kernel); simp only [Flow.textOf, List.map_cons, List.map_nil, Option.map_none, Option.map_some, Array.getD_eq_getD_getElem?, List.getElem?_toArray, List.getElem?_cons_zero, List.getElem?_cons_succ, Option.getD_some, Flow.wpFl, Flow.SameAll]) | (refine Flow.region_still mixed ?hB ?_; (case hB => decide +kernel)))
              go_at_call 10
              refine (two_cut (X := wr.heap.size) (B := w1.heap.size) (n := n) (L1 := L) (L2 := L) (a := a) (c := c) (-1) ?ht).mono ?_
              case ht => exact HT3.out.box (by (repeat' (first | with_reducible exact Fr.refl _ _ | with_reducible apply Fr.alloc | with_reducible apply Fr.drew | with_reducible apply Fr.drewN | (with_reducible refine Fr.setCell ?_ ?_ _)))) (by simp)
              rintro e w4 ⟨rfl, ht, hf⟩
              have BX4 := hid ((Blk.new wr _ _).fr hf (by (first | omega | (dsimp only at h ⊢; omega) | (dsimp only at h; omega) | (dsimp only; omega) | (simp at h ⊢; omega) | (simp at h; omega) | (rcases h with h | h <;> first | exact h.elim | (dsimp only at h ⊢; omega) | (dsimp only at h; omega) | omega))))
              have HF4 := hid ((HF3.out.trans (S2 := fun _ => False) (show Fr (fun _ => False) wr _ by (repeat' (first | with_reducible exact Fr.refl _ _ | with_reducible apply Fr.alloc | with_reducible apply Fr.drew | with_reducible apply Fr.drewN | (with_reducible refine Fr.setCell ?_ ?_ _)))) (fun _ _ h => h.elim)).trans hf (fun k hk h => h.1))
              have HT4 := hid (ht.take (m := 0) (Nat.zero_le _))
              simp only [show (-1 : Int).toNat = 0 from rfl, List.take_zero] at HT4
              clear ht hf
              have b1 : w4.cell? ⟨wr.heap.size, 1, none⟩ = some (.int .i64 y) := (BX4.out.cell 1).trans rfl
              have hL9 := (Two.len HT4.out).1
              have hbx := BX4.out.lt
              go_wp2_with (first | (go_at_call 11; refine (two_get (X := wr.heap.size) (B := w1.heap.size) (n := n) (L1 := []) (L2 := []) (a := a) (c := c) _ ?ht).mono ?_; (case ht => exact HT4.out.fr (by (repeat' (first | with_reducible exact Fr.refl _ _ | with_reducible apply Fr.alloc | with_reducible apply Fr.drew | with_reducible apply Fr.drewN | (with_reducible refine Fr.setCell ?_ ?_ _))))); rintro e w10 ⟨rfl, ht, hf⟩; have HT10 := hid ht; have hf2 : Fr (fun _ => False) w4 w10 := (show Fr (fun _ => False) w4 _ by (repeat' (first | with_reducible exact Fr.refl _ _ | with_reducible apply Fr.alloc | with_reducible apply Fr.drew | with_reducible apply Fr.drewN | (with_reducible refine Fr.setCell ?_ ?_ _)))).trans hf (fun _ _ h => h); have HF10 := hid (HF4.out.trans hf2 (fun k hk h => h.elim)); have b10 : w10.cell? ⟨wr.heap.size, 1, none⟩ = some (.int .i64 y) := hf2.cell b1 (fun h => h); clear ht hf hf2) | (go_at_call 12; refine (two_rget (X := wr.heap.size) (B := w1.heap.size) (n := n) (L1 := []) (L2 := []) (a := a) (c := c) _ HT10.out (by omega)).mono ?_; rintro e w' ⟨rfl, rfl⟩) | (go_at_call 13; refine (two_same (X := wr.heap.size) (B := w1.heap.size) (n := n) (L1 := []) (a := a) (c := c) HT10.out).mono ?_; rintro e w11 ⟨rfl, ht, hf⟩; have HT11 := hid ht; have HF11 := hid (HF10.out.trans hf (fun k hk h => h.elim)); clear ht hf) | still_step | (with_reducible refine wpStill_nil ?_) | (with_reducible refine Flow.Both.mk ?_ ?_) | (with_reducible exact True.intro) | (with_reducible refine Flow.same_mk rfl rfl rfl ?_; go_simp; done) | (with_reducible exact Flow.same_un rfl rfl rfl) | (with_reducible refine Flow.region_flow (id := 23) [0, 0, 2, 6, 15, 31, 63, 127, 255, 511, 255, 1279, 3327, 7423, 16383, 32767, 65535, 131071, 65535, 327679, 851967, 1900543, 4194303, 8388607, 16777215, 33554431, 67108863, 134217727, 268435455, 536870911, 1073741823, 1073741823, 4294967295, 8589934591, 17179869183] 2147483648 5645237020 [(0, none), (1, none), (2, none), (3, none), (4, none), (5, none), (6, none), (7, none), (8, none), (9, none), (10, none), (11, none), (12, none), (13, none), (14, none), (15, none), (16, none), (17, none), (18, none), (19, none), (20, none), (21, none), (22, none), (23, none), (24, none), (25, none), (26, none), (27, none), (28, none), (29, none), (30, none), (31, some [30]), (32, none), (33, none), (34, none)] mixed ?hB ?_; (case hB => decide +kernel); simp only [Flow.textOf, List.map_cons, List.map_nil, Option.map_none, Option.map_some, Array.getD_eq_getD_getElem?, List.getElem?_toArray, List.getElem?_cons_zero, List.getElem?_cons_succ, Option.getD_some, Flow.wpFl, Flow.SameAll]) | (refine Flow.region_still mixed ?hB ?_; (case hB => decide +kernel)))
              go_roundw
              case rel =>
                have hrl : ∃ k_1 : Nat, k_1 ≤ l.length ∧ (Value.int .i64 ((k : Int) + 1)) = .int .i64 k_1 ∧ (∃ Lq aq cq Xq, (Value.slice a ([]).length c) = .slice aq Lq.length cq ∧ Two Xq w11 w1.heap.size n Lq Lq aq cq) ∧ Fr (fun k => w1.heap.size ≤ k) w w11 :=
                  ⟨k + 1, by omega, by go_num, ⟨_, _, _, _, rfl, HT11.out⟩, HF11.out⟩
                first | exact hrl | ((repeat apply Exists.intro); exact ⟨hrl, rfl⟩)
              case measure => simp [intOf]; omega
            · -- CASE cut
              go_wp2_with (first | fail | still_step | (with_reducible refine wpStill_nil ?_) | (with_reducible refine Flow.Both.mk ?_ ?_) | (with_reducible exact True.intro) | (with_reducible refine Flow.same_mk rfl rfl rfl ?_; go_simp; done) | (with_reducible exact Flow.same_un rfl rfl rfl) | (with_reducible refine Flow.region_flow (id := 23) [0, 0, 2, 6, 15, 31, 63, 127, 255, 511, 255, 1279, 3327, 7423, 16383, 32767, 65535, 131071, 65535, 327679, 851967, 1900543, 4194303, 8388607, 16777215, 33554431, 67108863, 134217727, 268435455, 536870911, 1073741823, 1073741823, 4294967295, 8589934591, 17179869183] 2147483648 5645237020 [(0, none), (1, none), (2, none), (3, none), (4, none), (5, none), (6, none), (7, none), (8, none), (9, none), (10, none), (11, none), (12, none), (13, none), (14, none), (15, none), (16, none), (17, none), (18, none), (19, none), (20, none), (21, none), (22, none), (23, none), (24, none), (25, none), (26, none), (27, none), (28, none), (29, none), (30, none), (31, some [30]), (32, none), (33, none), (34, none)] mixed ?hB ?_; (case hB => decide +kernel); simp only [Flow.textOf, List.map_cons, List.map_nil, Option.map_none, Option.map_some, Array.getD_eq_getD_getElem?, List.getElem?_toArray, List.getElem?_cons_zero, List.getElem?_cons_succ, Option.getD_some, Flow.wpFl, Flow.SameAll]) | (refine Flow.region_still mixed ?hB ?_; (case hB => decide +kernel)))
              have hm0 : 0 ≤ bits BinOp.and IntKind.i64 y 63 := by rw [and63]; omega
              generalize bits BinOp.and IntKind.i64 y 63 = m at *
              obtain ⟨m, rfl⟩ : ∃ m' : Nat, m = m' := ⟨m.toNat, by omega⟩
              go_at_call 10
              refine (two_cut (X := wr.heap.size) (B := w1.heap.size) (n := n) (L1 := L) (L2 := L) (a := a) (c := c) (m : Int) ?ht).mono ?_
              case ht => exact HT3.out.box (by (repeat' (first | with_reducible exact Fr.refl _ _ | with_reducible apply Fr.alloc | with_reducible apply Fr.drew | with_reducible apply Fr.drewN | (with_reducible refine Fr.setCell ?_ ?_ _)))) (by simp)
              rintro e w4 ⟨rfl, ht, hf⟩
              have BX4 := hid ((Blk.new wr _ _).fr hf (by (first | omega | (dsimp only at h ⊢; omega) | (dsimp only at h; omega) | (dsimp only; omega) | (simp at h ⊢; omega) | (simp at h; omega) | (rcases h with h | h <;> first | exact h.elim | (dsimp only at h ⊢; omega) | (dsimp only at h; omega) | omega))))
              have HF4 := hid ((HF3.out.trans (S2 := fun _ => False) (show Fr (fun _ => False) wr _ by (repeat' (first | with_reducible exact Fr.refl _ _ | with_reducible apply Fr.alloc | with_reducible apply Fr.drew | with_reducible apply Fr.drewN | (with_reducible refine Fr.setCell ?_ ?_ _)))) (fun _ _ h => h.elim)).trans hf (fun k hk h => h.1))
              rw [Int.toNat_natCast] at ht
              obtain ⟨d, hd⟩ : ∃ d, d = min L.length m := ⟨_, rfl⟩
              have hmx := fun w => run_max0_nat (P := Try.prog) #[3, 3] 3 m w
              have hmn := fun w => run_min2_nat (P := Try.prog) #[3, 3] 3 L.length m d hd w
              rw [show L.take m = L.take d by rw [hd]; exact (List.take_eq_take_min ..).trans (by congr 1; omega)] at ht
              have hdl : d ≤ L.length := by omega
              have hcap : L.length ≤ c := ht.cap
              have HT4 := hid (ht.take hdl)
              have hd2 : (L.take d).length = d := by simp; omega
              clear ht hf hd
              generalize L.take d = L' at *
              subst hd2
              have b1 : w4.cell? ⟨wr.heap.size, 1, none⟩ = some (.int .i64 y) := (BX4.out.cell 1).trans rfl
              have hL9 := (Two.len HT4.out).1
              have hbx := BX4.out.lt
              go_wp2_with (first | (go_at_call 11; refine (two_get (X := wr.heap.size) (B := w1.heap.size) (n := n) (L1 := L') (L2 := L') (a := a) (c := c) _ ?ht).mono ?_; (case ht => exact HT4.out.fr (by (repeat' (first | with_reducible exact Fr.refl _ _ | with_reducible apply Fr.alloc | with_reducible apply Fr.drew | with_reducible apply Fr.drewN | (with_reducible refine Fr.setCell ?_ ?_ _))))); rintro e w10 ⟨rfl, ht, hf⟩; have HT10 := hid ht; have hf2 : Fr (fun _ => False) w4 w10 := (show Fr (fun _ => False) w4 _ by (repeat' (first | with_reducible exact Fr.refl _ _ | with_reducible apply Fr.alloc | with_reducible apply Fr.drew | with_reducible apply Fr.drewN | (with_reducible refine Fr.setCell ?_ ?_ _)))).trans hf (fun _ _ h => h); have HF10 := hid (HF4.out.trans hf2 (fun k hk h => h.elim)); have b10 : w10.cell? ⟨wr.heap.size, 1, none⟩ = some (.int .i64 y) := hf2.cell b1 (fun h => h); clear ht hf hf2) | (go_at_call 12; refine (two_rget (X := wr.heap.size) (B := w1.heap.size) (n := n) (L1 := L') (L2 := L') (a := a) (c := c) _ HT10.out (by omega)).mono ?_; rintro e w' ⟨rfl, rfl⟩) | (go_at_call 13; refine (two_same (X := wr.heap.size) (B := w1.heap.size) (n := n) (L1 := L') (a := a) (c := c) HT10.out).mono ?_; rintro e w11 ⟨rfl, ht, hf⟩; have HT11 := hid ht; have HF11 := hid (HF10.out.trans hf (fun k hk h => h.elim)); clear ht hf) | still_step | (with_reducible refine wpStill_nil ?_) | (with_reducible refine Flow.Both.mk ?_ ?_) | (with_reducible exact True.intro) | (with_reducible refine Flow.same_mk rfl rfl rfl ?_; go_simp; done) | (with_reducible exact Flow.same_un rfl rfl rfl) | (with_reducible refine Flow.region_flow (id := 23) [0, 0, 2, 6, 15, 31, 63, 127, 255, 511, 255, 1279, 3327, 7423, 16383, 32767, 65535, 131071, 65535, 327679, 851967, 1900543, 4194303, 8388607, 16777215, 33554431, 67108863, 134217727, 268435455, 536870911, 1073741823, 1073741823, 4294967295, 8589934591, 17179869183] 2147483648 5645237020 [(0, none), (1, none), (2, none), (3, none), (4, none), (5, none), (6, none), (7, none), (8, none), (9, none), (10, none), (11, none), (12, none), (13, none), (14, none), (15, none), (16, none), (17, none), (18, none), (19, none), (20, none), (21, none), (22, none), (23, none), (24, none), (25, none), (26, none), (27, none), (28, none), (29, none), (30, none), (31, some [30]), (32, none), (33, none), (34, none)] mixed ?hB ?_; (case hB => decide +kernel); simp only [Flow.textOf, List.map_cons, List.map_nil, Option.map_none, Option.map_some, Array.getD_eq_getD_getElem?, List.getElem?_toArray, List.getElem?_cons_zero, List.getElem?_cons_succ, Option.getD_some, Flow.wpFl, Flow.SameAll]) | (refine Flow.region_still mixed ?hB ?_; (case hB => decide +kernel)))
              go_roundw
              case rel =>
                have hrl : ∃ k_1 : Nat, k_1 ≤ l.length ∧ (Value.int .i64 ((k : Int) + 1)) = .int .i64 k_1 ∧ (∃ Lq aq cq Xq, (Value.slice a (L').length c) = .slice aq Lq.length cq ∧ Two Xq w11 w1.heap.size n Lq Lq aq cq) ∧ Fr (fun k => w1.heap.size ≤ k) w w11 :=
                  ⟨k + 1, by omega, by go_num, ⟨_, _, _, _, rfl, HT11.out⟩, HF11.out⟩
                first | exact hrl | ((repeat apply Exists.intro); exact ⟨hrl, rfl⟩)
              case measure => simp [intOf]; omega
          · -- CASE other
            have h4f : Fr (fun _ => False) wr (wr.alloc (.cells #[.int .i64 x, .int .i64 y, .int .i64 z] 29)) := by (repeat' (first | with_reducible exact Fr.refl _ _ | with_reducible apply Fr.alloc | with_reducible apply Fr.drew | with_reducible apply Fr.drewN | (with_reducible refine Fr.setCell ?_ ?_ _)))
            have HT4 := hid (HT3.out.box h4f (by simp))
            have BX4 := hid (Blk.new wr #[.int .i64 x, .int .i64 y, .int .i64 z] 29)
            have HF4 := hid (HF3.out.trans h4f (fun k hk h => h.elim))
            clear h4f
            have b1 : (wr.alloc (.cells #[.int .i64 x, .int .i64 y, .int .i64 z] 29)).cell? ⟨wr.heap.size, 1, none⟩ = some (.int .i64 y) := (BX4.out.cell 1).trans rfl
            have hL9 := (Two.len HT4.out).1
            have hbx := BX4.out.lt
            go_wp2_with (first | (go_at_call 11; refine (two_get (X := wr.heap.size) (B := w1.heap.size) (n := n) (L1 := L) (L2 := L) (a := a) (c := c) _ ?ht).mono ?_; (case ht => exact HT4.out.fr (by (repeat' (first | with_reducible exact Fr.refl _ _ | with_reducible apply Fr.alloc | with_reducible apply Fr.drew | with_reducible apply Fr.drewN | (with_reducible refine Fr.setCell ?_ ?_ _))))); rintro e w10 ⟨rfl, ht, hf⟩; have HT10 := hid ht; have hf2 : Fr (fun _ => False) (wr.alloc (.cells #[.int .i64 x, .int .i64 y, .int .i64 z] 29)) w10 := (show Fr (fun _ => False) (wr.alloc (.cells #[.int .i64 x, .int .i64 y, .int .i64 z] 29)) _ by (repeat' (first | with_reducible exact Fr.refl _ _ | with_reducible apply Fr.alloc | with_reducible apply Fr.drew | with_reducible apply Fr.drewN | (with_reducible refine Fr.setCell ?_ ?_ _)))).trans hf (fun _ _ h => h); have HF10 := hid (HF4.out.trans hf2 (fun k hk h => h.elim)); have b10 : w10.cell? ⟨wr.heap.size, 1, none⟩ = some (.int .i64 y) := hf2.cell b1 (fun h => h); clear ht hf hf2) | (go_at_call 12; refine (two_rget (X := wr.heap.size) (B := w1.heap.size) (n := n) (L1 := L) (L2 := L) (a := a) (c := c) _ HT10.out (by omega)).mono ?_; rintro e w' ⟨rfl, rfl⟩) | (go_at_call 13; refine (two_same (X := wr.heap.size) (B := w1.heap.size) (n := n) (L1 := L) (a := a) (c := c) HT10.out).mono ?_; rintro e w11 ⟨rfl, ht, hf⟩; have HT11 := hid ht; have HF11 := hid (HF10.out.trans hf (fun k hk h => h.elim)); clear ht hf) | still_step | (with_reducible refine wpStill_nil ?_) | (with_reducible refine Flow.Both.mk ?_ ?_) | (with_reducible exact True.intro) | (with_reducible refine Flow.same_mk rfl rfl rfl ?_; go_simp; done) | (with_reducible exact Flow.same_un rfl rfl rfl) | (with_reducible refine Flow.region_flow (id := 23) [0, 0, 2, 6, 15, 31, 63, 127, 255, 511, 255, 1279, 3327, 7423, 16383, 32767, 65535, 131071, 65535, 327679, 851967, 1900543, 4194303, 8388607, 16777215, 33554431, 67108863, 134217727, 268435455, 536870911, 1073741823, 1073741823, 4294967295, 8589934591, 17179869183] 2147483648 5645237020 [(0, none), (1, none), (2, none), (3, none), (4, none), (5, none), (6, none), (7, none), (8, none), (9, none), (10, none), (11, none), (12, none), (13, none), (14, none), (15, none), (16, none), (17, none), (18, none), (19, none), (20, none), (21, none), (22, none), (23, none), (24, none), (25, none), (26, none), (27, none), (28, none), (29, none), (30, none), (31, some [30]), (32, none), (33, none), (34, none)] mixed ?hB ?_; (case hB => decide +kernel); simp only [Flow.textOf, List.map_cons, List.map_nil, Option.map_none, Option.map_some, Array.getD_eq_getD_getElem?, List.getElem?_toArray, List.getElem?_cons_zero, List.getElem?_cons_succ, Option.getD_some, Flow.wpFl, Flow.SameAll]) | (refine Flow.region_still mixed ?hB ?_; (case hB => decide +kernel)))
            go_roundw
            case rel =>
              have hrl : ∃ k_1 : Nat, k_1 ≤ l.length ∧ (Value.int .i64 ((k : Int) + 1)) = .int .i64 k_1 ∧ (∃ Lq aq cq Xq, (Value.slice a (L).length c) = .slice aq Lq.length cq ∧ Two Xq w11 w1.heap.size n Lq Lq aq cq) ∧ Fr (fun k => w1.heap.size ≤ k) w w11 :=
                ⟨k + 1, by omega, by go_num, ⟨_, _, _, _, rfl, HT11.out⟩, HF11.out⟩
              first | exact hrl | ((repeat apply Exists.intro); exact ⟨hrl, rfl⟩)
            case measure => simp [intOf]; omega
    · -- CASE after
      obtain rfl : k = l.length := by omega
      have HM2 := hid (HM.out.fr HF3.out (fun k h1 h2 => by (first | omega | (dsimp only at h ⊢; omega) | (dsimp only at h; omega) | (dsimp only; omega) | (simp at h ⊢; omega) | (simp at h; omega) | (rcases h with h | h <;> first | exact h.elim | (dsimp only at h ⊢; omega) | (dsimp only at h; omega) | omega))))
      have HL := hid (show mem.length * 8 ≤ 140737488355328 by omega)
      obtain ⟨R, Rr, h1, h2, h3, h4, h5⟩ := HT3.out
      have H1 := hid h1
      have H2 := hid h2.vw
      have H4 := hid (fun k hk => (h4 k hk).2.1)
      clear h1 h2 h3 h4 h5 HT3
      have hoL := ontoL_length L mem
      go_wp2_with (first | (go_at_call 14; refine (onto_yes w1.heap.size R (fun k => k < w.heap.size) n L a1 cap1 mem _ H1.out (HM2.out) HMN.out HL.out).mono ?_; rintro e w5 ⟨am, cm, rfl, ho, hf⟩; have HO := hid ho; have HM3 := hid (HM2.out.fr hf (fun _ _ h => h)); have H3 := hid (H2.out.fr hf (fun _ _ h => h)); have HF5 := hid (HF3.out.trans hf (fun k _ h => h.elim)); have HR := hid (fun k hk => Nat.lt_of_lt_of_le (H4.out k hk) hf.size); clear ho hf) | (go_at_call 15; refine (ronto_all Rr (fun k => k < w.heap.size) a a1 c cap1 L mem _ H3.out HR.out (by omega) HM3.out HL.out).mono ?_; rintro e w6 ⟨am2, cm2, rfl, ho, hf⟩; have HO2 := hid ho; have HO1 := hid (HO.out.fr hf (fun _ _ h => h)); have HF6 := hid (HF5.out.trans hf (fun k _ h => h.elim)); clear ho hf) | still_step | (with_reducible refine wpStill_nil ?_) | (with_reducible refine Flow.Both.mk ?_ ?_) | (with_reducible exact True.intro) | (with_reducible refine Flow.same_mk rfl rfl rfl ?_; go_simp; done) | (with_reducible exact Flow.same_un rfl rfl rfl) | (with_reducible refine Flow.region_flow (id := 23) [0, 0, 2, 6, 15, 31, 63, 127, 255, 511, 255, 1279, 3327, 7423, 16383, 32767, 65535, 131071, 65535, 327679, 851967, 1900543, 4194303, 8388607, 16777215, 33554431, 67108863, 134217727, 268435455, 536870911, 1073741823, 1073741823, 4294967295, 8589934591, 17179869183] 2147483648 5645237020 [(0, none), (1, none), (2, none), (3, none), (4, none), (5, none), (6, none), (7, none), (8, none), (9, none), (10, none), (11, none), (12, none), (13, none), (14, none), (15, none), (16, none), (17, none), (18, none), (19, none), (20, none), (21, none), (22, none), (23, none), (24, none), (25, none), (26, none), (27, none), (28, none), (29, none), (30, none), (31, some [30]), (32, none), (33, none), (34, none)] mixed ?hB ?_; (case hB => decide +kernel); simp only [Flow.textOf, List.map_cons, List.map_nil, Option.map_none, Option.map_some, Array.getD_eq_getD_getElem?, List.getElem?_toArray, List.getElem?_cons_zero, List.getElem?_cons_succ, Option.getD_some, Flow.wpFl, Flow.SameAll]) | (refine Flow.region_still mixed ?hB ?_; (case hB => decide +kernel)))
      obtain ⟨wz, rfl⟩ : ∃ wz : World, wz = wr := ⟨_, rfl⟩
      go_loopw [23] (fun i wr4 => ∃ k : Nat, k ≤ mem.length ∧ i = .int .i64 k ∧ Fr (fun _ => False) w6 wr4) (fun i _ => mem.length - (intOf i).toNat)
      case atStart => exact ⟨0, Nat.zero_le _, rfl, Fr.refl _ _⟩
      case round =>
        obtain ⟨k, hk, rfl, hf⟩ := hrel
        have HF13 := hid hf
        clear hf
        by_cases hlt : k < mem.length
        · have hne2 : ints (ontoL mem L) ≠ [] := fun h => by have := ints_length (ontoL mem L); rw [h, ontoL_length] at this; simp at this; omega
          obtain ⟨rm, offm, rfl, hrm', hcm⟩ := (HO1.out.fr HF13.out (fun _ _ h => h)).vw.cell hne2
          obtain ⟨ro, offo, rfl, hro', hco⟩ := (HO2.out.fr HF13.out (fun _ _ h => h)).vw.cell hne2
          have cm0 := hcm k _ (ints_get _ k (by rw [ontoL_length]; exact hlt))
          have co0 := hco k _ (ints_get _ k (by rw [ontoL_length]; exact hlt))
          generalize (ontoL mem L).getD k 0 = q at *
          clear hcm hco hne2
          go_wp2_with (first | fail | still_step | (with_reducible refine wpStill_nil ?_) | (with_reducible refine Flow.Both.mk ?_ ?_) | (with_reducible exact True.intro) | (with_reducible refine Flow.same_mk rfl rfl rfl ?_; go_simp; done) | (with_reducible exact Flow.same_un rfl rfl rfl) | (with_reducible refine Flow.region_flow (id := 23) [0, 0, 2, 6, 15, 31, 63, 127, 255, 511, 255, 1279, 3327, 7423, 16383, 32767, 65535, 131071, 65535, 327679, 851967, 1900543, 4194303, 8388607, 16777215, 33554431, 67108863, 134217727, 268435455, 536870911, 1073741823, 1073741823, 4294967295, 8589934591, 17179869183] 2147483648 5645237020 [(0, none), (1, none), (2, none), (3, none), (4, none), (5, none), (6, none), (7, none), (8, none), (9, none), (10, none), (11, none), (12, none), (13, none), (14, none), (15, none), (16, none), (17, none), (18, none), (19, none), (20, none), (21, none), (22, none), (23, none), (24, none), (25, none), (26, none), (27, none), (28, none), (29, none), (30, none), (31, some [30]), (32, none), (33, none), (34, none)] mixed ?hB ?_; (case hB => decide +kernel); simp only [Flow.textOf, List.map_cons, List.map_nil, Option.map_none, Option.map_some, Array.getD_eq_getD_getElem?, List.getElem?_toArray, List.getElem?_cons_zero, List.getElem?_cons_succ, Option.getD_some, Flow.wpFl, Flow.SameAll]) | (refine Flow.region_still mixed ?hB ?_; (case hB => decide +kernel)))
          go_roundw
          case rel =>
            have hrl : ∃ k_1 : Nat, k_1 ≤ mem.length ∧ (Value.int .i64 ((k : Int) + 1)) = .int .i64 k_1 ∧ Fr (fun _ => False) w6 wr.drew := ⟨k + 1, by omega, by go_num, HF13.out.drew⟩
            first | exact hrl | ((repeat apply Exists.intro); exact ⟨hrl, rfl⟩)
          case measure => simp [intOf]; omega
        · obtain rfl : k = mem.length := by omega
          have HF14 := hid (HF6.out.trans HF13.out (fun k hk e => e.elim))
          go_wp2_with (first | fail | still_step | (with_reducible refine wpStill_nil ?_) | (with_reducible refine Flow.Both.mk ?_ ?_) | (with_reducible exact True.intro) | (with_reducible refine Flow.same_mk rfl rfl rfl ?_; go_simp; done) | (with_reducible exact Flow.same_un rfl rfl rfl) | (with_reducible refine Flow.region_flow (id := 23) [0, 0, 2, 6, 15, 31, 63, 127, 255, 511, 255, 1279, 3327, 7423, 16383, 32767, 65535, 131071, 65535, 327679, 851967, 1900543, 4194303, 8388607, 16777215, 33554431, 67108863, 134217727, 268435455, 536870911, 1073741823, 1073741823, 4294967295, 8589934591, 17179869183] 2147483648 5645237020 [(0, none), (1, none), (2, none), (3, none), (4, none), (5, none), (6, none), (7, none), (8, none), (9, none), (10, none), (11, none), (12, none), (13, none), (14, none), (15, none), (16, none), (17, none), (18, none), (19, none), (20, none), (21, none), (22, none), (23, none), (24, none), (25, none), (26, none), (27, none), (28, none), (29, none), (30, none), (31, some [30]), (32, none), (33, none), (34, none)] mixed ?hB ?_; (case hB => decide +kernel); simp only [Flow.textOf, List.map_cons, List.map_nil, Option.map_none, Option.map_some, Array.getD_eq_getD_getElem?, List.getElem?_toArray, List.getElem?_cons_zero, List.getElem?_cons_succ, Option.getD_some, Flow.wpFl, Flow.SameAll]) | (refine Flow.region_still mixed ?hB ?_; (case hB => decide +kernel)))
          go_ret
          exact ⟨rfl, HF14.out.below (Nat.le_refl _) (fun k h1 h2 => by (first | omega | (dsimp only at h ⊢; omega) | (dsimp only at h; omega) | (dsimp only; omega) | (simp at h ⊢; omega) | (simp at h; omega) | (rcases h with h | h <;> first | exact h.elim | (dsimp only at h ⊢; omega) | (dsimp only at h; omega) | omega)))⟩
end Go.Proofs.Ytkpbojddahddnaa
