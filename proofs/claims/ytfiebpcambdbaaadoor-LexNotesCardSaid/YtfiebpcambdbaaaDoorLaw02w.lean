/-
  LexWords: plain, Same, and the law's walk.
-/
import Derived.Test.YtfiebpcambdbaaaDoorAwake02
import Derived.Test.YtfiebpcambdbaaaDoorRefW
set_option linter.unusedVariables false
set_option linter.unusedSimpArgs false
set_option maxHeartbeats 4000000
set_option maxRecDepth 8000
namespace Go.Proofs.YtfiebpcambdbaaaDoor
open Go.RowKit Go.Shelf Go.Proofs.YtfiebpcambdbaaaDoor.Lex
attribute [local irreducible] wpStill wpList Calls CallsIn

theorem wdsC_get : ∀ (l : List Wd) (k : Nat) (h : k < l.length) (j : Nat) (v : Value), (wdC l[k])[j]? = some v → (wdsC l)[k * 4 + j]? = some v
  | [], k, h, _, _, _ => by simp at h
  | a :: l, 0, _, j, v, hv => by
    have hv' : (wdC a)[j]? = some v := hv
    unfold wdsC
    rw [List.flatMap_cons, Nat.zero_mul, Nat.zero_add, List.getElem?_append_left (List.getElem?_eq_some_iff.1 hv').1]
    exact hv'
  | a :: l, k + 1, h, j, v, hv => by
    have ih := wdsC_get l k (by simpa using h) j v hv
    unfold wdsC at ih ⊢
    rw [List.flatMap_cons, List.getElem?_append_right (by simp [wdC]; omega)]
    rw [show (k + 1) * 4 + j - (wdC a).length = k * 4 + j by simp [wdC]; omega]
    exact ih
/-- A word of a row, as walks read it. -/
theorem wd_at {w : World} {R : Nat → Prop} {a : Option Addr} {l : List Wd} (h : Vw w 4 R a l.length (wdsC l)) {k : Nat} (hk : k < l.length) :
    ∃ r off, a = some ⟨r, off, none⟩ ∧ R r ∧ r < w.heap.size ∧ w.cell? ⟨r, off + k * 4, none⟩ = some (.int .i64 l[k].kind) ∧ w.cell? ⟨r, off + k * 4 + 1, none⟩ = some (.string ⟨l[k].text.toArray⟩) ∧ w.cell? ⟨r, off + k * 4 + 2, none⟩ = some (.int .i64 l[k].n) ∧ w.cell? ⟨r, off + k * 4 + 3, none⟩ = some (.int .i64 l[k].at') := by
  obtain ⟨r, off, e, hr, hc⟩ := h.cell (fun e => by have := congrArg List.length e; rw [wdsC_length] at this; simp only [List.length_nil] at this; omega)
  have g : ∀ j v, (wdC l[k])[j]? = some v → w.cell? ⟨r, off + k * 4 + j, none⟩ = some v := fun j v hv => by
    have := hc _ _ (wdsC_get l k hk j v hv)
    rwa [← Nat.add_assoc] at this
  have h0 := g 0 _ rfl
  exact ⟨r, off, e, hr, World.block_lt_of_cell? _ _ h0, h0, g 1 _ rfl, g 2 _ rfl, g 3 _ rfl⟩

theorem same_yes (R1 R2 : Nat → Prop) (a b : Option Addr) (c1 c2 : Nat) (l : List Wd) (w : World) (hl : l.length ≤ 1000000) (h1 : Vw w 4 R1 a l.length (wdsC l)) (h2 : Vw w 4 R2 b l.length (wdsC l)) :
    Calls Tryd.prog 11 #[.slice a l.length c1, .slice b l.length c2] w fun e w' => e = .returned (.bool true) ∧ Fr (fun _ => False) w w' := by
  have HV1 := hid h1
  have HV2 := hid h2
  clear h1 h2
  obtain ⟨N, hN⟩ : ∃ N, N = l.length := ⟨_, rfl⟩
  rw [← hN]
  have HN := hid hN
  have hN2 : N ≤ 1000000 := by omega
  clear hN hl
  go_enter Tryd.func11, Tryd.ntmps11
  go_wp2_with (first | still_step | (with_reducible first | refine wpStill_nil ?_ | refine Flow.Both.mk ?_ ?_ | exact True.intro) | (with_reducible refine Flow.same_mk rfl rfl rfl ?_; go_simp; done) | (with_reducible exact Flow.same_un rfl rfl rfl) | (refine Flow.region_still mixed ?hB ?_; (case hB => decide +kernel)))
  go_loopw [5] (fun v wr => ∃ k : Nat, k ≤ N ∧ v = .int .i64 (k : Int) ∧ Fr (fun _ => False) w wr) (fun v _ => N - (intOf v).toNat)
  case atStart => exact ⟨0, Nat.zero_le _, rfl, Fr.refl _ _⟩
  case round =>
    obtain ⟨k, hk, rfl, hf⟩ := hrel
    have HF := hid hf
    by_cases hlt : k < N
    · have hlt2 : (k : Int) < N := by omega
      have hkl : k < l.length := by have := HN.out; omega
      obtain ⟨r1, o1, rfl, -, lr1, p0, p1, p2, p3⟩ := wd_at (HV1.out.fr hf (fun _ _ h => h)) hkl
      obtain ⟨r2, o2, rfl, -, lr2, q0, q1, q2, q3⟩ := wd_at (HV2.out.fr hf (fun _ _ h => h)) hkl
      clear hf
      generalize l[k].kind = x0 at *
      generalize (⟨l[k].text.toArray⟩ : ByteArray) = x1 at *
      generalize l[k].n = x2 at *
      generalize l[k].at' = x3 at *
      go_wp2_with (first | still_step | (with_reducible first | refine wpStill_nil ?_ | refine Flow.Both.mk ?_ ?_ | exact True.intro) | (with_reducible refine Flow.same_mk rfl rfl rfl ?_; go_simp; done) | (with_reducible exact Flow.same_un rfl rfl rfl) | (refine Flow.region_still mixed ?hB ?_; (case hB => decide +kernel)))
      go_roundw
      case rel => exact ⟨k + 1, by omega, rfl, by first | exact HF.out | exact HF.out.drew | exact HF.out.trans (show Fr (fun _ => False) wr _ by (with_reducible repeat' (first | exact Fr.refl _ _ | apply Fr.alloc | apply Fr.drew | apply Fr.drewN | refine Fr.setCell ?_ ?_ _))) (fun _ _ h => h)⟩
      case measure => simp [intOf]; omega
    · obtain rfl : k = N := by omega
      clear hf
      go_wp2_with (first | still_step | (with_reducible first | refine wpStill_nil ?_ | refine Flow.Both.mk ?_ ?_ | exact True.intro) | (with_reducible refine Flow.same_mk rfl rfl rfl ?_; go_simp; done) | (with_reducible exact Flow.same_un rfl rfl rfl) | (refine Flow.region_still mixed ?hB ?_; (case hB => decide +kernel)))
      go_ret
      exact ⟨rfl, HF.out⟩

theorem plain_is (R1 : Nat → Prop) (a : Option Addr) (c1 : Nat) (l : List Wd) (w : World) (hl : l.length ≤ 1000000) (h1 : Vw w 4 R1 a l.length (wdsC l)) :
    Calls Tryd.prog 12 #[.slice a l.length c1] w fun e w' => ∃ ao cap, e = .returned (.slice ao l.length cap) ∧ OwnAt w' 45 4 (fun z => w.heap.size ≤ z) ao l.length cap (wdsC l) ∧ Fr (fun _ => False) w w' := by
  obtain ⟨i0, hi0, hz0, hz1, hz2⟩ := info_parts infoRW
  have HV1 := hid h1
  clear h1
  obtain ⟨N, hN⟩ : ∃ N, N = l.length := ⟨_, rfl⟩
  rw [← hN]
  have HN := hid hN
  have hN2 : N ≤ 1000000 := by omega
  clear hN hl
  go_enter Tryd.func12, Tryd.ntmps12
  go_wp2_with (first | still_step | (with_reducible first | refine wpStill_nil ?_ | refine Flow.Both.mk ?_ ?_ | exact True.intro) | (with_reducible refine Flow.same_mk rfl rfl rfl ?_; go_simp; done) | (with_reducible exact Flow.same_un rfl rfl rfl) | (with_reducible refine Flow.region_flow (id := 5) [0, 0, 0, 6, 14, 30, 0, 0, 192, 448, 960, 0, 0, 6144, 14336, 30720, 0, 0, 196608, 458752, 983040, 2097150, 4194302, 8388607, 16777215] 14680064 1894200 [(0, none), (1, none), (2, none), (3, none), (4, none), (5, none), (6, none), (7, none), (8, none), (9, none), (10, none), (11, none), (12, none), (13, none), (14, none), (15, none), (16, none), (17, none), (18, none), (19, none), (20, none), (21, some []), (22, some []), (23, some []), (24, none)] mixed ?hB ?_; (case hB => decide +kernel); simp only [Flow.textOf, Flow.q1, Flow.q2, Flow.q3, Flow.q4, Flow.q5, Flow.q6, Flow.q7, Flow.q8, Flow.q9, Flow.wpFl, Flow.SameAll]) | (refine Flow.region_still mixed ?hB ?_; (case hB => decide +kernel)))
  go_loopw [3, 4] (fun v3 v4 wr => ∃ k ao cap, k ≤ N ∧ v3 = .slice ao k cap ∧ v4 = .int .i64 (k : Int) ∧ OwnAt wr 45 4 (fun z => w.heap.size ≤ z) ao k cap (wdsC (l.take k)) ∧ Fr (fun _ => False) w wr) (fun _ v _ => N - (intOf v).toNat)
  case atStart => exact ⟨0, none, 0, Nat.zero_le _, rfl, rfl, OwnAt.nil _ _ _ _ _, Fr.refl _ _⟩
  case round =>
    obtain ⟨k, ao, cap, hk, rfl, rfl, ho, hf⟩ := hrel
    have HF := hid hf
    have HO := hid ho
    have s0 := hf.size
    by_cases hlt : k < N
    · have hlt2 : (k : Int) < N := by omega
      have hkl : k < l.length := by have := HN.out; omega
      obtain ⟨r1, o1, rfl, -, lr1, p0, p1, p2, p3⟩ := wd_at (HV1.out.fr hf (fun _ _ h => h)) hkl
      have htk : wdsC (l.take (k + 1)) = wdsC (l.take k) ++ wdC l[k] := by
        rw [List.take_succ_eq_append_getElem hkl, wdsC_app]
        simp [wdsC]
      have HTK := hid htk
      have hcw : wdC l[k] = [.int .i64 l[k].kind, .string ⟨l[k].text.toArray⟩, .int .i64 l[k].n, .int .i64 l[k].at'] := rfl
      have HCW := hid hcw
      clear hf ho htk hcw
      generalize wdC l[k] = CW at *
      generalize l[k].kind = x0 at *
      generalize (⟨l[k].text.toArray⟩ : ByteArray) = x1 at *
      generalize l[k].n = x2 at *
      generalize l[k].at' = x3 at *
      go_wp2_with (first | (at_builtin; refine wpList_append_Own _ rfl (.tmp 11) (.tmp 33) 27 rfl 45 i0 (.agg #[.int .i64 0, .string ⟨#[]⟩, .int .i64 0, .int .i64 0]) 4 40 Tryd.underlying27 hi0 hz0 hz1 hz2 rfl (by decide) (fun z => w.heap.size ≤ z) (fun _ => True) ao k cap (wdsC (l.take k)) rfl ?own (some ⟨wr.heap.size, 0, none⟩) 1 1 CW rfl ?vw ?one ?b1 ?b2 ?grow) | still_step | (with_reducible first | refine wpStill_nil ?_ | refine Flow.Both.mk ?_ ?_ | exact True.intro) | (with_reducible refine Flow.same_mk rfl rfl rfl ?_; go_simp; done) | (with_reducible exact Flow.same_un rfl rfl rfl) | (with_reducible refine Flow.region_flow (id := 5) [0, 0, 0, 6, 14, 30, 0, 0, 192, 448, 960, 0, 0, 6144, 14336, 30720, 0, 0, 196608, 458752, 983040, 2097150, 4194302, 8388607, 16777215] 14680064 1894200 [(0, none), (1, none), (2, none), (3, none), (4, none), (5, none), (6, none), (7, none), (8, none), (9, none), (10, none), (11, none), (12, none), (13, none), (14, none), (15, none), (16, none), (17, none), (18, none), (19, none), (20, none), (21, some []), (22, some []), (23, some []), (24, none)] mixed ?hB ?_; (case hB => decide +kernel); simp only [Flow.textOf, Flow.q1, Flow.q2, Flow.q3, Flow.q4, Flow.q5, Flow.q6, Flow.q7, Flow.q8, Flow.q9, Flow.wpFl, Flow.SameAll]) | (refine Flow.region_still mixed ?hB ?_; (case hB => decide +kernel)))
      case own => exact HO.out.fr (S := fun _ => False) (by (with_reducible repeat' (first | exact Fr.refl _ _ | apply Fr.alloc | apply Fr.drew | apply Fr.drewN | refine Fr.setCell ?_ ?_ _))) (fun _ _ h => h)
      case vw =>
        have key : ∀ W : World, Blk W wr.heap.size #[.int .i64 x0, .string x1, .int .i64 x2, .int .i64 x3] 45 → Vw W 4 (fun _ => True) (some ⟨wr.heap.size, 0, none⟩) 1 CW := fun W hb => by
          rw [HCW.out]
          exact Vw.of_blk (sz := 4) (n := 1) (R := fun _ => True) hb trivial rfl
        exact key _ (by (repeat (with_reducible apply Blk.drew)); exact Blk.new _ _ _)
      case one => rw [HCW.out]; intro u hu; simp only [List.mem_cons, List.not_mem_nil, or_false] at hu; rcases hu with rfl | rfl | rfl | rfl <;> rfl
      case b1 => unfold maxLen; omega
      case b2 => omega
      case grow =>
        intro ao5 cap5 w5 ho5 hf5
        have HO5 := hid (ho5.mono (R2 := fun z => w.heap.size ≤ z) (fun z _ h => by
          rcases h with h | h
          · exact h
          · (try simp at h); omega))
        have HF5 := hid ((HF.out.trans (show Fr (fun _ => False) wr _ by (with_reducible repeat' (first | exact Fr.refl _ _ | apply Fr.alloc | apply Fr.drew | apply Fr.drewN | refine Fr.setCell ?_ ?_ _))) (fun _ _ h => h)).trans hf5 (fun z hz h => by have h' : w.heap.size ≤ z := h; omega))
        clear ho5 hf5
        go_wp2_with (first | still_step | (with_reducible first | refine wpStill_nil ?_ | refine Flow.Both.mk ?_ ?_ | exact True.intro) | (with_reducible refine Flow.same_mk rfl rfl rfl ?_; go_simp; done) | (with_reducible exact Flow.same_un rfl rfl rfl) | (with_reducible refine Flow.region_flow (id := 5) [0, 0, 0, 6, 14, 30, 0, 0, 192, 448, 960, 0, 0, 6144, 14336, 30720, 0, 0, 196608, 458752, 983040, 2097150, 4194302, 8388607, 16777215] 14680064 1894200 [(0, none), (1, none), (2, none), (3, none), (4, none), (5, none), (6, none), (7, none), (8, none), (9, none), (10, none), (11, none), (12, none), (13, none), (14, none), (15, none), (16, none), (17, none), (18, none), (19, none), (20, none), (21, some []), (22, some []), (23, some []), (24, none)] mixed ?hB ?_; (case hB => decide +kernel); simp only [Flow.textOf, Flow.q1, Flow.q2, Flow.q3, Flow.q4, Flow.q5, Flow.q6, Flow.q7, Flow.q8, Flow.q9, Flow.wpFl, Flow.SameAll]) | (refine Flow.region_still mixed ?hB ?_; (case hB => decide +kernel)))
        go_roundw
        case rel => exact ⟨k + 1, ao5, cap5, by omega, rfl, rfl, by rw [HTK.out]; exact HO5.out, HF5.out⟩
        case measure => simp [intOf]; omega
    · obtain rfl : k = N := by omega
      have e : l.take k = l := by rw [HN.out, List.take_length]
      rw [e] at HO
      clear hf ho e
      go_wp2_with (first | still_step | (with_reducible first | refine wpStill_nil ?_ | refine Flow.Both.mk ?_ ?_ | exact True.intro) | (with_reducible refine Flow.same_mk rfl rfl rfl ?_; go_simp; done) | (with_reducible exact Flow.same_un rfl rfl rfl) | (with_reducible refine Flow.region_flow (id := 5) [0, 0, 0, 6, 14, 30, 0, 0, 192, 448, 960, 0, 0, 6144, 14336, 30720, 0, 0, 196608, 458752, 983040, 2097150, 4194302, 8388607, 16777215] 14680064 1894200 [(0, none), (1, none), (2, none), (3, none), (4, none), (5, none), (6, none), (7, none), (8, none), (9, none), (10, none), (11, none), (12, none), (13, none), (14, none), (15, none), (16, none), (17, none), (18, none), (19, none), (20, none), (21, some []), (22, some []), (23, some []), (24, none)] mixed ?hB ?_; (case hB => decide +kernel); simp only [Flow.textOf, Flow.q1, Flow.q2, Flow.q3, Flow.q4, Flow.q5, Flow.q6, Flow.q7, Flow.q8, Flow.q9, Flow.wpFl, Flow.SameAll]) | (refine Flow.region_still mixed ?hB ?_; (case hB => decide +kernel)))
      go_ret
      exact ⟨ao, cap, rfl, HO.out, HF.out⟩

theorem wordsB_len {s : B} {l : List Wd} (h : wordsB s = .ok l) : l.length ≤ 16385 := by
  unfold wordsB at h
  split at h
  · cases h
  · have hb : ∀ (m : Nat) (T : Int) (r : B), r.length ≤ m → ∀ l, wordsR T r = .ok l → l.length ≤ r.length + 1 := by
      intro m
      induction m with
      | zero =>
        intro T r hr l h
        obtain rfl : r = [] := List.length_eq_zero_iff.1 (by omega)
        rw [wordsR_nil] at h; cases h; simp
      | succ m ih =>
        intro T r hr l h
        by_cases hn : r = []
        · subst hn; rw [wordsR_nil] at h; cases h; simp
        · rcases wordsR_cases T hn with ⟨e, _, h2⟩ | ⟨k, t, n, h1, h2⟩
          · rw [h2] at h; cases h
          · rw [h2] at h
            obtain ⟨l', h3, rfl⟩ := consW_ok h
            have hlt := drop_lt hn h1
            have := ih T _ (by omega) l' h3
            simp; omega
    have h1 := hb _ _ _ (Nat.le_refl _) l h
    have h2 := skipB_le s
    omega

theorem lexwords_l (l : B) (w : World) (hb : l.length ≤ 140737488351232) (ht : Tabs w) : Calls Tryd.prog 3 #[.string ⟨l.toArray⟩] w fun e w' => e = .returned (.bool true) ∧ Fr (fun _ => False) w w' := by
  have HT := hid ht
  clear ht
  have HAW := hid (fun w ht => awake_true w ht)
  obtain ⟨sv, hsv⟩ : ∃ sv : ByteArray, sv = ⟨l.toArray⟩ := ⟨_, rfl⟩
  have hsz : sv.size = l.length := by rw [hsv]; exact mk_size l
  by_cases hbig : 20000 < l.length
  · rw [← hsv]
    have hb2 : (20000 : Int) < l.length := by omega
    clear hsv hbig hb
    generalize l.length = N at *
    go_enter Tryd.func3, Tryd.ntmps3
    go_wp2_with (first | (go_at_call 8; refine (HAW.out _ HT.out).mono ?_; rintro e w1 ⟨rfl, hf⟩; have HF1 := hid hf; clear hf) | still_step | (with_reducible first | refine wpStill_nil ?_ | refine Flow.Both.mk ?_ ?_ | exact True.intro) | (with_reducible refine Flow.same_mk rfl rfl rfl ?_; go_simp; done) | (with_reducible exact Flow.same_un rfl rfl rfl) | (refine Flow.region_still mixed ?hB ?_; (case hB => decide +kernel)))
    go_ret
    exact ⟨by simp, HF1.out⟩
  · have HWD := hid (fun w ht => words_is l w (by omega) ht)
    have HRW := hid (fun w => rwords_is l w (by omega))
    rw [← hsv] at HWD HRW ⊢
    have hb2 : (l.length : Int) ≤ 20000 := by omega
    clear hsv hbig hb
    cases hx : wordsB l with
    | error x =>
      obtain ⟨x, a⟩ := x
      rw [hx] at HWD HRW
      have hpl := fun w => plain_is (fun _ => True) none 0 [] w (by simp) ⟨rfl, .inl rfl⟩
      have HPL := hid hpl
      clear hx hpl
      generalize l.length = N at *
      go_enter Tryd.func3, Tryd.ntmps3
      go_wp2_with (first | (go_at_call 8; refine (HAW.out _ HT.out).mono ?_; rintro e w1 ⟨rfl, hf⟩; have HF1 := hid hf; clear hf) | still_step | (with_reducible first | refine wpStill_nil ?_ | refine Flow.Both.mk ?_ ?_ | exact True.intro) | (with_reducible refine Flow.same_mk rfl rfl rfl ?_; go_simp; done) | (with_reducible exact Flow.same_un rfl rfl rfl) | (refine Flow.region_still mixed ?hB ?_; (case hB => decide +kernel)))
      go_at_call 9
      refine (HWD.out _ (HT.out.fr HF1.out)).mono ?_
      rintro e w2 ⟨rfl, hf⟩
      have HF2 := hid (HF1.out.trans hf (fun _ _ h => h))
      clear hf
      go_wp2_with (first | still_step | (with_reducible first | refine wpStill_nil ?_ | refine Flow.Both.mk ?_ ?_ | exact True.intro) | (with_reducible refine Flow.same_mk rfl rfl rfl ?_; go_simp; done) | (with_reducible exact Flow.same_un rfl rfl rfl) | (refine Flow.region_still mixed ?hB ?_; (case hB => decide +kernel)))
      go_at_call 10
      refine (HRW.out _).mono ?_
      rintro e w3 ⟨rfl, hf⟩
      have HF3 := hid (HF2.out.trans hf (fun _ _ h => h))
      clear hf
      go_wp2_with (first | still_step | (with_reducible first | refine wpStill_nil ?_ | refine Flow.Both.mk ?_ ?_ | exact True.intro) | (with_reducible refine Flow.same_mk rfl rfl rfl ?_; go_simp; done) | (with_reducible exact Flow.same_un rfl rfl rfl) | (refine Flow.region_still mixed ?hB ?_; (case hB => decide +kernel)))
      go_at_call 12
      refine (HPL.out _).mono ?_
      rintro e w4 ⟨ao, cap, rfl, ho, hf⟩
      have HF4 := hid (HF3.out.trans hf (fun _ _ h => h))
      have HSM := hid (fun w => same_yes (fun _ => True) (fun _ => True) ao none cap 0 [] w (by simp) ⟨rfl, .inl rfl⟩ ⟨rfl, .inl rfl⟩)
      clear hf ho
      go_wp2_with (first | (go_at_call 11; refine (HSM.out _).mono ?_; rintro e w5 ⟨rfl, hf⟩; have HF5 := hid (HF4.out.trans hf (fun _ _ h => h)); clear hf) | still_step | (with_reducible first | refine wpStill_nil ?_ | refine Flow.Both.mk ?_ ?_ | exact True.intro) | (with_reducible refine Flow.same_mk rfl rfl rfl ?_; go_simp; done) | (with_reducible exact Flow.same_un rfl rfl rfl) | (refine Flow.region_still mixed ?hB ?_; (case hB => decide +kernel)))
      go_ret
      exact ⟨by simp, HF5.out⟩
    | ok m =>
      have hml := wordsB_len hx
      rw [hx] at HWD HRW
      clear hx
      generalize l.length = N at *
      go_enter Tryd.func3, Tryd.ntmps3
      go_wp2_with (first | (go_at_call 8; refine (HAW.out _ HT.out).mono ?_; rintro e w1 ⟨rfl, hf⟩; have HF1 := hid hf; clear hf) | still_step | (with_reducible first | refine wpStill_nil ?_ | refine Flow.Both.mk ?_ ?_ | exact True.intro) | (with_reducible refine Flow.same_mk rfl rfl rfl ?_; go_simp; done) | (with_reducible exact Flow.same_un rfl rfl rfl) | (refine Flow.region_still mixed ?hB ?_; (case hB => decide +kernel)))
      go_at_call 9
      refine (HWD.out _ (HT.out.fr HF1.out)).mono ?_
      rintro e w2 ⟨a2, c2, rfl, ho2, hf⟩
      have HF2 := hid (HF1.out.trans hf (fun _ _ h => h))
      have HV2 := hid ho2.vw
      clear hf ho2
      go_wp2_with (first | still_step | (with_reducible first | refine wpStill_nil ?_ | refine Flow.Both.mk ?_ ?_ | exact True.intro) | (with_reducible refine Flow.same_mk rfl rfl rfl ?_; go_simp; done) | (with_reducible exact Flow.same_un rfl rfl rfl) | (refine Flow.region_still mixed ?hB ?_; (case hB => decide +kernel)))
      go_at_call 10
      refine (HRW.out _).mono ?_
      rintro e w3 ⟨a3, c3, rfl, ho3, hf⟩
      have HF3 := hid (HF2.out.trans hf (fun _ _ h => h))
      have HV2' := hid (HV2.out.fr hf (fun _ _ h => h))
      have HV3 := hid ho3.vw
      clear hf ho3
      go_wp2_with (first | still_step | (with_reducible first | refine wpStill_nil ?_ | refine Flow.Both.mk ?_ ?_ | exact True.intro) | (with_reducible refine Flow.same_mk rfl rfl rfl ?_; go_simp; done) | (with_reducible exact Flow.same_un rfl rfl rfl) | (refine Flow.region_still mixed ?hB ?_; (case hB => decide +kernel)))
      go_at_call 12
      refine (plain_is _ a2 c2 m w3 (by omega) HV2'.out).mono ?_
      rintro e w4 ⟨a4, c4, rfl, ho4, hf⟩
      have HF4 := hid (HF3.out.trans hf (fun _ _ h => h))
      have HSM := hid (same_yes _ _ a4 a3 c4 c3 m w4 (by omega) ho4.vw (HV3.out.fr hf (fun _ _ h => h)))
      clear hf ho4
      go_wp2_with (first | (go_at_call 11; refine HSM.out.mono ?_; rintro e w5 ⟨rfl, hf⟩; have HF5 := hid (HF4.out.trans hf (fun _ _ h => h)); clear hf) | still_step | (with_reducible first | refine wpStill_nil ?_ | refine Flow.Both.mk ?_ ?_ | exact True.intro) | (with_reducible refine Flow.same_mk rfl rfl rfl ?_; go_simp; done) | (with_reducible exact Flow.same_un rfl rfl rfl) | (refine Flow.region_still mixed ?hB ?_; (case hB => decide +kernel)))
      go_ret
      exact ⟨by simp, HF5.out⟩
theorem lexwords_walk (s : ByteArray) (w : World) (ht : Tabs w) (hz : s.size ≤ 140737488351232) : Calls Tryd.prog 3 #[.string s] w fun e w' => e = .returned (.bool true) ∧ Below w.heap.size w w' := by
  rw [show s = ⟨s.data.toList.toArray⟩ by simp]
  exact (lexwords_l _ w (by simpa using hz) ht).mono fun e w' h => ⟨h.1, h.2.below (Nat.le_refl _) (fun _ _ h => h)⟩
end Go.Proofs.YtfiebpcambdbaaaDoor
