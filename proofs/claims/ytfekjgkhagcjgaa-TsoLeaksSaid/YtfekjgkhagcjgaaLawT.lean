/-
  TsoLeaks: what is seen of a step is what its instruction, and its registers, tell; memory changes by flushes alone.
-/
import Derived.Test.YtfekjgkhagcjgaaAwake28
import Derived.Test.YtfekjgkhagcjgaaOpenV
namespace Go.Proofs.Ytfekjgkhagcjgaa.Tso
open Go.RowKit Go.Proofs.Ytfekjgkhagcjgaa.Seq
attribute [local irreducible] wpStill wpList Calls CallsIn

/-- What is done, as cells. -/
def doC (l : List (Bool × Int)) : List Value := l.flatMap fun a => [.bool a.1, .int .i64 a.2]
theorem doC_length (l : List (Bool × Int)) : (doC l).length = l.length * 2 := by
  unfold doC
  induction l with
  | nil => rfl
  | cons a l ih => simp only [List.flatMap_cons, List.length_append, List.length_cons, List.length_nil, ih]; omega
theorem doC_get (l : List (Bool × Int)) (k : Nat) (h : k < l.length) : (doC l)[k * 2]? = some (.bool l[k].1) ∧ (doC l)[k * 2 + 1]? = some (.int .i64 l[k].2) := by
  induction l generalizing k with
  | nil => simp at h
  | cons a l ih =>
    cases k with
    | zero => exact ⟨rfl, rfl⟩
    | succ k =>
      have h2 : k < l.length := by simpa using h
      obtain ⟨a1, a2⟩ := ih k h2
      have e : (k + 1) * 2 = k * 2 + 2 := by omega
      refine ⟨?_, ?_⟩
      · rw [e]; show (doC l)[k * 2]? = _; rw [a1]; rfl
      · rw [e]; show (doC l)[k * 2 + 1]? = _; rw [a2]; rfl

theorem regs16 {w : World} {B : Nat} {R : Nat → Prop} {ids : List (Nat × Nat)} {m : M} (h : MR w R B ids m) (who : Int) : ((m.th who).getD noTh).regs.length = 16 := by
  obtain ⟨Q, hQ⟩ := h
  rcases th_cases hQ who with ⟨_, h2⟩ | ⟨k, p, t, rfl, hp, ht, h1, h2, hrep⟩
  · rw [h2]; rfl
  · rw [h2]; exact hrep.1

theorem stand_cells (t : Th) (a : Option Addr) (c : Nat) (h : t.regs.length = 16) : (standV t a c).toArray.size = 19 ∧ (standV t a c).toArray.toList.all (·.oneCell') = true ∧ (∀ k : Nat, k < 16 → (standV t a c).toArray[1 + k]? = some (.int .i64 (t.regs.getD k 0))) ∧ (standV t a c).toArray[17]? = some (.slice a t.wait.length c) := by
  obtain ⟨code, place, regs, wait, over⟩ := t
  obtain ⟨r0, r1, r2, r3, r4, r5, r6, r7, r8, r9, r10, r11, r12, r13, r14, r15, rfl⟩ := list16 regs h
  refine ⟨rfl, rfl, fun k hk => ?_, rfl⟩
  match k, hk with
  | 0, _ => rfl
  | 1, _ => rfl
  | 2, _ => rfl
  | 3, _ => rfl
  | 4, _ => rfl
  | 5, _ => rfl
  | 6, _ => rfl
  | 7, _ => rfl
  | 8, _ => rfl
  | 9, _ => rfl
  | 10, _ => rfl
  | 11, _ => rfl
  | 12, _ => rfl
  | 13, _ => rfl
  | 14, _ => rfl
  | 15, _ => rfl
  | k + 16, h => exact absurd h (by omega)

theorem next_mem {t : Th} {i : Ins} (h : t.next = some i) : i ∈ t.code := by
  unfold Th.next at h
  split at h
  · exact List.mem_of_getElem? h
  · cases h
theorem flush_none (m : M) (who : Int) (h : (m.flush who).2.2 = false) : (m.flush who).2.1 = none_ := by
  unfold M.flush at h ⊢
  split
  · rfl
  · rename_i t ht
    rw [ht] at h
    dsimp only at h
    split
    · rfl
    · rename_i hw
      rw [hw] at h
      cases h
theorem flush_some (m : M) (who : Int) (h : (m.flush who).2.2 = true) : ∃ t e r, m.th who = some t ∧ t.wait = e :: r ∧ (m.flush who).2.1 = ⟨4, who, 0, e.1⟩ := by
  unfold M.flush at h ⊢
  cases ht : m.th who with
  | none => rw [ht] at h; cases h
  | some t =>
    rw [ht] at h
    dsimp only at h ⊢
    cases hw : t.wait with
    | nil => rw [hw] at h; cases h
    | cons e r => exact ⟨t, e, r, rfl, hw, rfl⟩
theorem step_none (m : M) (who : Int) (h : (m.step who).2.2 = false) : (m.step who).2.1 = none_ := by
  unfold M.step at h ⊢
  cases ht : m.th who with
  | none => rfl
  | some t =>
    rw [ht] at h
    dsimp only at h ⊢
    cases hn : t.next with
    | none => rfl
    | some i =>
      rw [hn] at h
      dsimp only at h ⊢
      cases hd : doIns m who t i with
      | none => rfl
      | some r => rw [hd] at h; cases h

set_option linter.unusedSimpArgs false in
set_option maxHeartbeats 40000000 in
set_option maxRecDepth 100000 in
theorem leaks_walk (ao aa a1 a2 : Option Addr) (co ac cap1 cap2 : Nat) (qs : List ((Option Addr × Nat) × List Ins)) (al : List (Int × Int × Bool)) (words locks : Int) (mem : List Int) (l : List (Bool × Int)) (w : World)
    (hc : Codes w (fun k => k < w.heap.size) ao qs) (ha : Vw w 3 (fun k => k < w.heap.size) aa al.length (areaC al)) (hal : al.length ≤ 9223372036854775807) (hql : qs.length ≤ 9223372036854775807) (hi : ∀ q ∈ qs, q.2.length ≤ 9223372036854775807)
    (hm : Vw w 1 (fun k => k < w.heap.size) a1 mem.length (ints mem)) (hmn : a1 = none → mem.length = 0) (hml : mem.length ≤ 9223372036854775807) (hv : Vw w 2 (fun k => k < w.heap.size) a2 l.length (doC l)) (hll : l.length ≤ 9223372036854775807) :
    Calls Try.prog 5 #[.agg #[.slice ao qs.length co, .slice aa al.length ac, .int .i64 words, .int .i64 locks], .slice a1 mem.length cap1, .slice a2 l.length cap2] w fun e w' => e = .returned (.bool true) ∧ Fr (fun _ => False) w w' := by
  have HC := hid hc
  have HA := hid ha
  have HM := hid hm
  have HMN := hid hmn
  have HV := hid hv
  have HI := hid hi
  have hqal := hid (And.intro hql hal)
  clear hc ha hm hmn hv hi hql hal
  obtain ⟨QL, hQL⟩ : ∃ QL, QL = qs.length := ⟨_, rfl⟩
  have HQL := hid hQL
  rw [← hQL]
  obtain ⟨AL, hAL⟩ : ∃ AL, AL = al.length := ⟨_, rfl⟩
  have HAL := hid hAL
  rw [← hAL]
  obtain ⟨ML, hML⟩ : ∃ ML, ML = mem.length := ⟨_, rfl⟩
  have HML := hid hML
  rw [← hML] at hml ⊢
  clear hQL hAL hML
  have HX := hid (Blk.new w #[.slice ao QL co, .slice aa AL ac, .int .i64 words, .int .i64 locks] 25)
  go_enter Try.func5, Try.ntmps5
  go_wp2_with (first | fail | still_step | (with_reducible refine wpStill_nil ?_) | (with_reducible refine Flow.Both.mk ?_ ?_) | (with_reducible exact True.intro) | (with_reducible refine Flow.same_mk rfl rfl rfl ?_; go_simp; done) | (with_reducible exact Flow.same_un rfl rfl rfl) | (with_reducible refine Flow.region_flow (id := 27) [0, 1, 3, 7, 7, 31, 63, 127, 255, 511, 1023, 2047, 4095, 8191, 16383, 32767, 16383, 81919, 212991, 475135, 999423, 2097151, 4194303, 8388607, 16777215] 16 4185130 [(0, none), (1, none), (2, none), (3, none), (4, some [3]), (5, none), (6, none), (7, none), (8, none), (9, none), (10, none), (11, none), (12, none), (13, none), (14, none), (15, none), (16, none), (17, none), (18, none), (19, none), (20, none), (21, none), (22, none), (23, none), (24, none)] mixed ?hB ?_; (case hB => decide +kernel); simp only [Flow.textOf, List.map_cons, List.map_nil, Option.map_none, Option.map_some, Array.getD_eq_getD_getElem?, List.getElem?_toArray, List.getElem?_cons_zero, List.getElem?_cons_succ, Option.getD_some, Flow.wpFl, Flow.SameAll]) | (refine Flow.region_still mixed ?hB ?_; (case hB => decide +kernel)))
  go_at_call 7
  refine (awake_true _).mono ?_
  rintro e w1 ⟨rfl, hf1⟩
  have HF1 := hid ((show Fr (fun _ => False) w _ by (repeat' (first | with_reducible exact Fr.refl _ _ | with_reducible apply Fr.alloc | with_reducible apply Fr.drew | with_reducible apply Fr.drewN | (with_reducible refine Fr.setCell ?_ ?_ _)))).trans hf1 (fun _ _ h => h))
  have hx1 := HX.out.fr hf1 (fun h => h)
  have c0_i := Blk.cell hx1 0
  have f0_i := Blk.free hx1 0
  have c1_i := Blk.cell hx1 1
  have f1_i := Blk.free hx1 1
  have c2_i := Blk.cell hx1 2
  have f2_i := Blk.free hx1 2
  have c3_i := Blk.cell hx1 3
  have f3_i := Blk.free hx1 3
  have l_i := Blk.lt hx1
  have HX1 := hid hx1
  have HC1 := hid (HC.out.fr HF1.out (fun _ _ h => h))
  have HA1 := hid (HA.out.fr HF1.out (fun _ _ h => h))
  clear hf1 HX hx1
  go_wp2_with (first | fail | still_step | (with_reducible refine wpStill_nil ?_) | (with_reducible refine Flow.Both.mk ?_ ?_) | (with_reducible exact True.intro) | (with_reducible refine Flow.same_mk rfl rfl rfl ?_; go_simp; done) | (with_reducible exact Flow.same_un rfl rfl rfl) | (with_reducible refine Flow.region_flow (id := 27) [0, 1, 3, 7, 7, 31, 63, 127, 255, 511, 1023, 2047, 4095, 8191, 16383, 32767, 16383, 81919, 212991, 475135, 999423, 2097151, 4194303, 8388607, 16777215] 16 4185130 [(0, none), (1, none), (2, none), (3, none), (4, some [3]), (5, none), (6, none), (7, none), (8, none), (9, none), (10, none), (11, none), (12, none), (13, none), (14, none), (15, none), (16, none), (17, none), (18, none), (19, none), (20, none), (21, none), (22, none), (23, none), (24, none)] mixed ?hB ?_; (case hB => decide +kernel); simp only [Flow.textOf, List.map_cons, List.map_nil, Option.map_none, Option.map_some, Array.getD_eq_getD_getElem?, List.getElem?_toArray, List.getElem?_cons_zero, List.getElem?_cons_succ, Option.getD_some, Flow.wpFl, Flow.SameAll]) | (refine Flow.region_still mixed ?hB ?_; (case hB => decide +kernel)))
  go_at_call 8
  rw [HQL.out, HAL.out]
  refine (small_is _ _ ao aa co ac qs al words locks w1 HC1.out HA1.out hqal.out.2 hqal.out.1 HI.out).mono ?_
  rintro e w2 ⟨few, rfl, hfew, hf2⟩
  have HFEW := hid hfew
  have HF2 := hid (HF1.out.trans hf2 (fun _ _ h => h))
  have hx2 := HX1.out.fr hf2 (fun h => h)
  clear c0_i f0_i c1_i f1_i c2_i f2_i c3_i f3_i l_i
  have c0_i := Blk.cell hx2 0
  have f0_i := Blk.free hx2 0
  have c1_i := Blk.cell hx2 1
  have f1_i := Blk.free hx2 1
  have c2_i := Blk.cell hx2 2
  have f2_i := Blk.free hx2 2
  have c3_i := Blk.cell hx2 3
  have f3_i := Blk.free hx2 3
  have l_i := Blk.lt hx2
  clear hf2 hfew HX1 hx2 HF1 HC1 HA1
  cases few with
  | false =>
    go_wp2_with (first | fail | still_step | (with_reducible refine wpStill_nil ?_) | (with_reducible refine Flow.Both.mk ?_ ?_) | (with_reducible exact True.intro) | (with_reducible refine Flow.same_mk rfl rfl rfl ?_; go_simp; done) | (with_reducible exact Flow.same_un rfl rfl rfl) | (with_reducible refine Flow.region_flow (id := 27) [0, 1, 3, 7, 7, 31, 63, 127, 255, 511, 1023, 2047, 4095, 8191, 16383, 32767, 16383, 81919, 212991, 475135, 999423, 2097151, 4194303, 8388607, 16777215] 16 4185130 [(0, none), (1, none), (2, none), (3, none), (4, some [3]), (5, none), (6, none), (7, none), (8, none), (9, none), (10, none), (11, none), (12, none), (13, none), (14, none), (15, none), (16, none), (17, none), (18, none), (19, none), (20, none), (21, none), (22, none), (23, none), (24, none)] mixed ?hB ?_; (case hB => decide +kernel); simp only [Flow.textOf, List.map_cons, List.map_nil, Option.map_none, Option.map_some, Array.getD_eq_getD_getElem?, List.getElem?_toArray, List.getElem?_cons_zero, List.getElem?_cons_succ, Option.getD_some, Flow.wpFl, Flow.SameAll]) | (refine Flow.region_still mixed ?hB ?_; (case hB => decide +kernel)))
    go_ret
    exact ⟨rfl, HF2.out⟩
  | true =>
    obtain ⟨hg, hwd, hln⟩ := HFEW.out rfl
    have hql4 : qs.length ≤ 4 := hg.1
    by_cases hm3 : 300 < ML
    · go_wp2_with (first | fail | still_step | (with_reducible refine wpStill_nil ?_) | (with_reducible refine Flow.Both.mk ?_ ?_) | (with_reducible exact True.intro) | (with_reducible refine Flow.same_mk rfl rfl rfl ?_; go_simp; done) | (with_reducible exact Flow.same_un rfl rfl rfl) | (with_reducible refine Flow.region_flow (id := 27) [0, 1, 3, 7, 7, 31, 63, 127, 255, 511, 1023, 2047, 4095, 8191, 16383, 32767, 16383, 81919, 212991, 475135, 999423, 2097151, 4194303, 8388607, 16777215] 16 4185130 [(0, none), (1, none), (2, none), (3, none), (4, some [3]), (5, none), (6, none), (7, none), (8, none), (9, none), (10, none), (11, none), (12, none), (13, none), (14, none), (15, none), (16, none), (17, none), (18, none), (19, none), (20, none), (21, none), (22, none), (23, none), (24, none)] mixed ?hB ?_; (case hB => decide +kernel); simp only [Flow.textOf, List.map_cons, List.map_nil, Option.map_none, Option.map_some, Array.getD_eq_getD_getElem?, List.getElem?_toArray, List.getElem?_cons_zero, List.getElem?_cons_succ, Option.getD_some, Flow.wpFl, Flow.SameAll]) | (refine Flow.region_still mixed ?hB ?_; (case hB => decide +kernel)))
      go_ret
      exact ⟨rfl, HF2.out⟩
    by_cases hl6 : 60 < l.length
    · go_wp2_with (first | fail | still_step | (with_reducible refine wpStill_nil ?_) | (with_reducible refine Flow.Both.mk ?_ ?_) | (with_reducible exact True.intro) | (with_reducible refine Flow.same_mk rfl rfl rfl ?_; go_simp; done) | (with_reducible exact Flow.same_un rfl rfl rfl) | (with_reducible refine Flow.region_flow (id := 27) [0, 1, 3, 7, 7, 31, 63, 127, 255, 511, 1023, 2047, 4095, 8191, 16383, 32767, 16383, 81919, 212991, 475135, 999423, 2097151, 4194303, 8388607, 16777215] 16 4185130 [(0, none), (1, none), (2, none), (3, none), (4, some [3]), (5, none), (6, none), (7, none), (8, none), (9, none), (10, none), (11, none), (12, none), (13, none), (14, none), (15, none), (16, none), (17, none), (18, none), (19, none), (20, none), (21, none), (22, none), (23, none), (24, none)] mixed ?hB ?_; (case hB => decide +kernel); simp only [Flow.textOf, List.map_cons, List.map_nil, Option.map_none, Option.map_some, Array.getD_eq_getD_getElem?, List.getElem?_toArray, List.getElem?_cons_zero, List.getElem?_cons_succ, Option.getD_some, Flow.wpFl, Flow.SameAll]) | (refine Flow.region_still mixed ?hB ?_; (case hB => decide +kernel)))
      go_ret
      exact ⟨rfl, HF2.out⟩
    have HG := hid hg
    have HLN := hid hln
    obtain ⟨words, rfl⟩ : ∃ n : Nat, words = n := ⟨words.toNat, by have := hg.2.2.2.1; omega⟩
    obtain ⟨locks, rfl⟩ : ∃ n : Nat, locks = n := ⟨locks.toNat, by have := hg.2.1; omega⟩
    have hlk8 : locks ≤ 8 := by have := hg.2.2.1; omega
    clear hg hln HFEW
    go_wp2_with (first | fail | still_step | (with_reducible refine wpStill_nil ?_) | (with_reducible refine Flow.Both.mk ?_ ?_) | (with_reducible exact True.intro) | (with_reducible refine Flow.same_mk rfl rfl rfl ?_; go_simp; done) | (with_reducible exact Flow.same_un rfl rfl rfl) | (with_reducible refine Flow.region_flow (id := 27) [0, 1, 3, 7, 7, 31, 63, 127, 255, 511, 1023, 2047, 4095, 8191, 16383, 32767, 16383, 81919, 212991, 475135, 999423, 2097151, 4194303, 8388607, 16777215] 16 4185130 [(0, none), (1, none), (2, none), (3, none), (4, some [3]), (5, none), (6, none), (7, none), (8, none), (9, none), (10, none), (11, none), (12, none), (13, none), (14, none), (15, none), (16, none), (17, none), (18, none), (19, none), (20, none), (21, none), (22, none), (23, none), (24, none)] mixed ?hB ?_; (case hB => decide +kernel); simp only [Flow.textOf, List.map_cons, List.map_nil, Option.map_none, Option.map_some, Array.getD_eq_getD_getElem?, List.getElem?_toArray, List.getElem?_cons_zero, List.getElem?_cons_succ, Option.getD_some, Flow.wpFl, Flow.SameAll]) | (refine Flow.region_still mixed ?hB ?_; (case hB => decide +kernel)))
    go_at_call 9
    rw [HQL.out, HML.out]
    refine (new_is (fun k => k < w.heap.size) (fun k => k < w.heap.size) ao a1 aa co cap1 AL ac qs words locks 3 mem w2 (HC.out.fr HF2.out (fun _ _ h => h)) (HM.out.fr HF2.out (fun _ _ h => h)) HMN.out (by omega) (by have := HML.out; omega) (fun q hq => by have := HLN.out q hq; omega) (by omega) hlk8 (by omega)).mono ?_
    rintro e w3 ⟨B, ids, rfl, hm3', hf3⟩
    obtain ⟨m0', hm0'⟩ : ∃ x, x = start (qs.map (·.2)) words mem locks 3 := ⟨_, rfl⟩
    rw [← hm0'] at hm3'
    have hg0 : GoodM m0' := by
      rw [hm0']
      refine start_good (fun c hc i hi => ?_)
      obtain ⟨q, hq, rfl⟩ := List.mem_map.1 hc
      exact HG.out.2.2.2.2.2 q hq i hi
    have hev0 : m0'.events.length ≤ 0 ∧ m0'.mem.length ≤ 65536 := by
      rw [hm0']
      refine ⟨Nat.le_refl 0, ?_⟩
      show (memInit words mem).length ≤ _
      rw [memInit_length]; omega
    have HM3 := hid hm3'
    have HG0 := hid hg0
    have HEV0 := hid hev0
    have HF3 := hid (HF2.out.trans hf3 (fun _ _ h => h))
    have HS3 := hid (show w.heap.size ≤ w2.heap.size from HF2.out.size)
    clear c0_i f0_i c1_i f1_i c2_i f2_i c3_i f3_i l_i hf3 hm3' hm0' hg0 hev0 HF2 HC HA HM HMN HI HG HLN HQL HAL HML hqal hlk8 hwd hql4 hm3
    go_wp2_with (first | fail | still_step | (with_reducible refine wpStill_nil ?_) | (with_reducible refine Flow.Both.mk ?_ ?_) | (with_reducible exact True.intro) | (with_reducible refine Flow.same_mk rfl rfl rfl ?_; go_simp; done) | (with_reducible exact Flow.same_un rfl rfl rfl) | (with_reducible refine Flow.region_flow (id := 27) [0, 1, 3, 7, 7, 31, 63, 127, 255, 511, 1023, 2047, 4095, 8191, 16383, 32767, 16383, 81919, 212991, 475135, 999423, 2097151, 4194303, 8388607, 16777215] 16 4185130 [(0, none), (1, none), (2, none), (3, none), (4, some [3]), (5, none), (6, none), (7, none), (8, none), (9, none), (10, none), (11, none), (12, none), (13, none), (14, none), (15, none), (16, none), (17, none), (18, none), (19, none), (20, none), (21, none), (22, none), (23, none), (24, none)] mixed ?hB ?_; (case hB => decide +kernel); simp only [Flow.textOf, List.map_cons, List.map_nil, Option.map_none, Option.map_some, Array.getD_eq_getD_getElem?, List.getElem?_toArray, List.getElem?_cons_zero, List.getElem?_cons_succ, Option.getD_some, Flow.wpFl, Flow.SameAll]) | (refine Flow.region_still mixed ?hB ?_; (case hB => decide +kernel)))
    go_loopw [10] (fun i wr => ∃ (k : Nat) (R : Nat → Prop) (m : M), k ≤ l.length ∧ i = .int .i64 k ∧ MR wr R B ids m ∧ GoodM m ∧ m.events.length ≤ k ∧ m.mem.length ≤ 65536 ∧ (∀ z, R z → w.heap.size ≤ z) ∧ Fr (fun _ => False) w wr) (fun i _ => l.length - (intOf i).toNat)
    case atStart => exact ⟨0, _, _, Nat.zero_le _, rfl, HM3.out, HG0.out, HEV0.out.1, HEV0.out.2, fun z hz => by have := HS3.out; have := hz.1; omega, HF3.out⟩
    case round =>
      obtain ⟨k, R, m, hk, rfl, hm, hg, hev, hmm, hR, hf⟩ := hrel
      have HM := hid hm
      have HRL := hid (show ∀ z, R z → w.heap.size ≤ z ∧ z < wr.heap.size from fun z hz => ⟨hR z hz, hm.lt z hz⟩)
      have HF := hid hf
      have HG := hid hg
      have HEV := hid (show evRoom m by unfold evRoom; omega)
      have hsw := hf.size
      clear hm hR hf hg HM3 HG0 HEV0 HF3 HS3
      by_cases hlt : k < l.length
      · have hne : doC l ≠ [] := fun h => by have := doC_length l; rw [h] at this; simp at this; omega
        obtain ⟨r0, off0, rfl, hr0, hcell⟩ := (HV.out.fr HF.out (fun _ _ h => h)).cell hne
        have c0 : wr.cell? ⟨r0, off0 + k * 2, none⟩ = some (.bool l[k].1) := hcell (k * 2) _ (doC_get l k hlt).1
        have c1 : wr.cell? ⟨r0, off0 + k * 2 + 1, none⟩ = some (.int .i64 l[k].2) := hcell (k * 2 + 1) _ (doC_get l k hlt).2
        clear hcell hne
        generalize l[k] = d at *
        obtain ⟨fl, who⟩ := d
        dsimp only at c0 c1
        go_wp2_with (first | fail | still_step | (with_reducible refine wpStill_nil ?_) | (with_reducible refine Flow.Both.mk ?_ ?_) | (with_reducible exact True.intro) | (with_reducible refine Flow.same_mk rfl rfl rfl ?_; go_simp; done) | (with_reducible exact Flow.same_un rfl rfl rfl) | (with_reducible refine Flow.region_flow (id := 27) [0, 1, 3, 7, 7, 31, 63, 127, 255, 511, 1023, 2047, 4095, 8191, 16383, 32767, 16383, 81919, 212991, 475135, 999423, 2097151, 4194303, 8388607, 16777215] 16 4185130 [(0, none), (1, none), (2, none), (3, none), (4, some [3]), (5, none), (6, none), (7, none), (8, none), (9, none), (10, none), (11, none), (12, none), (13, none), (14, none), (15, none), (16, none), (17, none), (18, none), (19, none), (20, none), (21, none), (22, none), (23, none), (24, none)] mixed ?hB ?_; (case hB => decide +kernel); simp only [Flow.textOf, List.map_cons, List.map_nil, Option.map_none, Option.map_some, Array.getD_eq_getD_getElem?, List.getElem?_toArray, List.getElem?_cons_zero, List.getElem?_cons_succ, Option.getD_some, Flow.wpFl, Flow.SameAll]) | (refine Flow.region_still mixed ?hB ?_; (case hB => decide +kernel)))
        go_at_call 22
        refine (memory_is B R ids m _ HM.out (by omega)).mono ?_
        rintro e w1 ⟨ma, mc, rfl, ho1, hf1⟩
        have HO1 := hid (ho1.mono (R2 := fun z => wr.heap.size ≤ z ∧ z < w1.heap.size) (fun z hz h => ⟨h, hz⟩))
        have HM1 := hid (HM.out.fr hf1 (fun _ _ h => h))
        have HF1 := hid (HF.out.trans hf1 (fun _ _ h => h))
        have hs1 := hf1.size
        have c0_ := Fr.cell hf1 c0 (fun h => h)
        clear c0
        have c0 := c0_
        clear c0_
        have c1_ := Fr.cell hf1 c1 (fun h => h)
        clear c1
        have c1 := c1_
        clear c1_
        clear ho1 hf1 HF
        go_wp2_with (first | fail | still_step | (with_reducible refine wpStill_nil ?_) | (with_reducible refine Flow.Both.mk ?_ ?_) | (with_reducible exact True.intro) | (with_reducible refine Flow.same_mk rfl rfl rfl ?_; go_simp; done) | (with_reducible exact Flow.same_un rfl rfl rfl) | (with_reducible refine Flow.region_flow (id := 27) [0, 1, 3, 7, 7, 31, 63, 127, 255, 511, 1023, 2047, 4095, 8191, 16383, 32767, 16383, 81919, 212991, 475135, 999423, 2097151, 4194303, 8388607, 16777215] 16 4185130 [(0, none), (1, none), (2, none), (3, none), (4, some [3]), (5, none), (6, none), (7, none), (8, none), (9, none), (10, none), (11, none), (12, none), (13, none), (14, none), (15, none), (16, none), (17, none), (18, none), (19, none), (20, none), (21, none), (22, none), (23, none), (24, none)] mixed ?hB ?_; (case hB => decide +kernel); simp only [Flow.textOf, List.map_cons, List.map_nil, Option.map_none, Option.map_some, Array.getD_eq_getD_getElem?, List.getElem?_toArray, List.getElem?_cons_zero, List.getElem?_cons_succ, Option.getD_some, Flow.wpFl, Flow.SameAll]) | (refine Flow.region_still mixed ?hB ?_; (case hB => decide +kernel)))
        go_at_call 23
        refine (thread_is B R ids m who w1 HM1.out).mono ?_
        rintro e w2 ⟨ta, tc, rfl, ho2, hf2⟩
        have h16 := regs16 HM1.out who
        obtain ⟨T, hT⟩ : ∃ T, T = (m.th who).getD noTh := ⟨_, rfl⟩
        rw [← hT] at ho2 h16 ⊢
        obtain ⟨vl, hvl⟩ : ∃ vl, vl = (standV T ta tc).toArray := ⟨_, rfl⟩
        rw [← hvl]
        have hst := stand_cells T ta tc h16
        rw [← hvl] at hst
        obtain ⟨hvs, hv1, hvr, hvw⟩ := hst
        have HO2 := hid (ho2.mono (R2 := fun z => w1.heap.size ≤ z ∧ z < w2.heap.size) (fun z hz h => ⟨h, hz⟩))
        have HT := hid hT
        have HVR := hid hvr
        have HVW := hid hvw
        have HM2 := hid (HM1.out.fr hf2 (fun _ _ h => h))
        have HF2 := hid (HF1.out.trans hf2 (fun _ _ h => h))
        have HO12 := hid (HO1.out.fr hf2 (fun _ _ h => h))
        have hs2 := hf2.size
        have c0_ := Fr.cell hf2 c0 (fun h => h)
        clear c0
        have c0 := c0_
        clear c0_
        have c1_ := Fr.cell hf2 c1 (fun h => h)
        clear c1
        have c1 := c1_
        clear c1_
        clear ho2 hf2 hT hvr hvw hvl HM1 HF1 HO1 h16
        go_wp2_with (first | ((with_reducible apply wpList_allocA (ty := 71) (standV noTh none 0).toArray); (case zai => exact zTHR); (case zac => rfl); intro wA hbA hfA hsA; have HBA := hid hbA; have HFA := hid hfA; clear hbA hfA hsA) | ((with_reducible apply wpList_storeA (b := w2.heap.size) (C := (standV noTh none 0).toArray) (cells := vl) (T := 71)); (case zsx => rfl); (case zsy => rfl); (case zsn => exact hvs); (case zsi => rw [hvs]; exact szTHR); (case zs1 => exact hv1); (case zsb => exact HBA.out); intro wS hbS hfS hsS; have HBS := hid hbS; have HFS := hid hfS; clear hbS hfS hsS) | still_step | (with_reducible refine wpStill_nil ?_) | (with_reducible refine Flow.Both.mk ?_ ?_) | (with_reducible exact True.intro) | (with_reducible refine Flow.same_mk rfl rfl rfl ?_; go_simp; done) | (with_reducible exact Flow.same_un rfl rfl rfl) | (with_reducible refine Flow.region_flow (id := 27) [0, 1, 3, 7, 7, 31, 63, 127, 255, 511, 1023, 2047, 4095, 8191, 16383, 32767, 16383, 81919, 212991, 475135, 999423, 2097151, 4194303, 8388607, 16777215] 16 4185130 [(0, none), (1, none), (2, none), (3, none), (4, some [3]), (5, none), (6, none), (7, none), (8, none), (9, none), (10, none), (11, none), (12, none), (13, none), (14, none), (15, none), (16, none), (17, none), (18, none), (19, none), (20, none), (21, none), (22, none), (23, none), (24, none)] mixed ?hB ?_; (case hB => decide +kernel); simp only [Flow.textOf, List.map_cons, List.map_nil, Option.map_none, Option.map_some, Array.getD_eq_getD_getElem?, List.getElem?_toArray, List.getElem?_cons_zero, List.getElem?_cons_succ, Option.getD_some, Flow.wpFl, Flow.SameAll]) | (refine Flow.region_still mixed ?hB ?_; (case hB => decide +kernel)))
        go_at_call 11
        have hfs : Fr (fun _ => False) w2 wS := HFA.out.trans HFS.out (fun z hz h => by omega)
        have hms := HM2.out.fr hfs (fun _ _ h => h)
        refine (next_is B R ids m who wS hms).mono ?_
        rintro e w4 ⟨rfl, hf4⟩
        obtain ⟨I, hI⟩ : ∃ I, I = (m.next who).getD noneI := ⟨_, rfl⟩
        rw [← hI]
        obtain ⟨nb, hnb⟩ : ∃ b, b = (m.next who).isSome := ⟨_, rfl⟩
        rw [← hnb]
        dsimp only [insC]
        have hf24 := hfs.trans hf4 (fun _ _ h => h)
        have HM4 := hid (hms.fr hf4 (fun _ _ h => h))
        have HF4 := hid (HF2.out.trans hf24 (fun _ _ h => h))
        have HO14 := hid (HO12.out.fr hf24 (fun _ _ h => h))
        have HO24 := hid (HO2.out.fr hf24 (fun _ _ h => h))
        have HB4 := hid (HBS.out.fr hf4 (fun h => h))
        have hl4 := HB4.out.lt
        have hs4 := HF4.out.size
        have hr4 : r0 < w4.heap.size := by omega
        have HI := hid hI
        have c0_ := Fr.cell hf24 c0 (fun h => h)
        clear c0
        have c0 := c0_
        clear c0_
        have c1_ := Fr.cell hf24 c1 (fun h => h)
        clear c1
        have c1 := c1_
        clear c1_
        clear hfs hms hf4 hf24 hI hnb HM2 HF2 HO12 HO2 HBS HBA HFA HFS
        cases fl with
        | true =>
          go_wp2_with (first | fail | still_step | (with_reducible refine wpStill_nil ?_) | (with_reducible refine Flow.Both.mk ?_ ?_) | (with_reducible exact True.intro) | (with_reducible refine Flow.same_mk rfl rfl rfl ?_; go_simp; done) | (with_reducible exact Flow.same_un rfl rfl rfl) | (with_reducible refine Flow.region_flow (id := 27) [0, 1, 3, 7, 7, 31, 63, 127, 255, 511, 1023, 2047, 4095, 8191, 16383, 32767, 16383, 81919, 212991, 475135, 999423, 2097151, 4194303, 8388607, 16777215] 16 4185130 [(0, none), (1, none), (2, none), (3, none), (4, some [3]), (5, none), (6, none), (7, none), (8, none), (9, none), (10, none), (11, none), (12, none), (13, none), (14, none), (15, none), (16, none), (17, none), (18, none), (19, none), (20, none), (21, none), (22, none), (23, none), (24, none)] mixed ?hB ?_; (case hB => decide +kernel); simp only [Flow.textOf, List.map_cons, List.map_nil, Option.map_none, Option.map_some, Array.getD_eq_getD_getElem?, List.getElem?_toArray, List.getElem?_cons_zero, List.getElem?_cons_succ, Option.getD_some, Flow.wpFl, Flow.SameAll]) | (refine Flow.region_still mixed ?hB ?_; (case hB => decide +kernel)))
          go_at_call 13
          obtain ⟨w5, hw5, hf5⟩ : ∃ w5, w5 = (w4.alloc (.cells #[.int .i64 I.k, .int .i64 I.op, .int .i64 I.d, .int .i64 I.a, .int .i64 I.b, .int .i64 I.n, .int .i64 I.to] 41)).alloc (.cells #[.int .i64 0, .int .i64 0, .int .i64 0, .int .i64 0] 46) ∧ Fr (fun _ => False) w4 w5 := ⟨_, rfl, by (repeat' (first | with_reducible exact Fr.refl _ _ | with_reducible apply Fr.alloc | with_reducible apply Fr.drew | with_reducible apply Fr.drewN | (with_reducible refine Fr.setCell ?_ ?_ _)))⟩
          have hin : Blk w5 w4.heap.size #[.int .i64 I.k, .int .i64 I.op, .int .i64 I.d, .int .i64 I.a, .int .i64 I.b, .int .i64 I.n, .int .i64 I.to] 41 := by rw [hw5]; exact (Blk.new w4 _ _).alloc _
          have hlk : Blk w5 (w4.heap.size + 1) #[.int .i64 0, .int .i64 0, .int .i64 0, .int .i64 0] 46 := by rw [hw5]; exact Blk.new' (by simp)
          rw [← hw5]
          refine (flush_is B R ids m who w5 (HM4.out.fr hf5 (fun _ _ h => h))).mono ?_
          rintro e w6 ⟨rfl, R6, hm6, hv6⟩
          have hs5 := hf5.size
          have hl5 := hlk.lt
          have HM6 := hid hm6
          have hR6 : ∀ z, R6 z → w.heap.size ≤ z := fun z hz => by
            rcases hv6.2.1 z hz with h | h
            · exact (HRL.out z h).1
            · omega
          have HR6 := hid (show ∀ z, R6 z → w.heap.size ≤ z ∧ z < w6.heap.size ∧ z ≠ w4.heap.size + 1 from fun z hz => ⟨hR6 z hz, hm6.lt z hz, by
            rcases hv6.2.1 z hz with h | h
            · have := HRL.out z h; omega
            · omega⟩)
          have HF6 := hid ((HF4.out.trans hf5 (fun _ _ h => h)).trans hv6.2.2 (fun z hz h => by have := HRL.out z h; omega))
          have HB6 := hid ((HB4.out.fr hf5 (fun h => h)).fr hv6.2.2 (fun h => by have := HRL.out _ h; omega))
          have HIN6 := hid (hin.fr hv6.2.2 (fun h => by have := HRL.out _ h; omega))
          have HLK6 := hid (hlk.fr hv6.2.2 (fun h => by have := HRL.out _ h; omega))
          have HO16 := hid ((HO14.out.fr hf5 (fun _ _ h => h)).fr hv6.2.2 (fun z hz h => by have := HRL.out z h; omega))
          have HO26 := hid ((HO24.out.fr hf5 (fun _ _ h => h)).fr hv6.2.2 (fun z hz h => by have := HRL.out z h; omega))
          have hs6 := hv6.2.2.size
          have c0 := hv6.2.2.cell (hf5.cell c0 (fun h => h)) (fun h => by have := (HRL.out r0 h).1; omega)
          have c1 := hv6.2.2.cell (hf5.cell c1 (fun h => h)) (fun h => by have := (HRL.out r0 h).1; omega)
          obtain ⟨res, hres⟩ : ∃ res, res = m.flush who := ⟨_, rfl⟩
          rw [← hres] at HM6 ⊢
          obtain ⟨m', lk, is⟩ := res
          obtain ⟨kk, kt, kw, kn⟩ := lk
          dsimp only [leakV] at HM6 ⊢
          have HRES := hid hres
          clear hres hm6 hv6 hR6 hf5 hw5 hin hlk HM4 HF4 HB4 HO14 HO24
          go_wp2_with (first | ((with_reducible apply wpList_storeA (b := w4.heap.size + 1) (C := #[.int .i64 0, .int .i64 0, .int .i64 0, .int .i64 0]) (cells := #[.int .i64 kk, .int .i64 kt, .int .i64 kw, .int .i64 kn]) (T := 46)); (case zsx => rfl); (case zsy => rfl); (case zsn => rfl); (case zsi => exact szLK); (case zs1 => rfl); (case zsb => exact HLK6.out); intro wL hbL hfL hsL; have HBL := hid hbL; have HFL := hid hfL; clear hbL hfL) | still_step | (with_reducible refine wpStill_nil ?_) | (with_reducible refine Flow.Both.mk ?_ ?_) | (with_reducible exact True.intro) | (with_reducible refine Flow.same_mk rfl rfl rfl ?_; go_simp; done) | (with_reducible exact Flow.same_un rfl rfl rfl) | (with_reducible refine Flow.region_flow (id := 27) [0, 1, 3, 7, 7, 31, 63, 127, 255, 511, 1023, 2047, 4095, 8191, 16383, 32767, 16383, 81919, 212991, 475135, 999423, 2097151, 4194303, 8388607, 16777215] 16 4185130 [(0, none), (1, none), (2, none), (3, none), (4, some [3]), (5, none), (6, none), (7, none), (8, none), (9, none), (10, none), (11, none), (12, none), (13, none), (14, none), (15, none), (16, none), (17, none), (18, none), (19, none), (20, none), (21, none), (22, none), (23, none), (24, none)] mixed ?hB ?_; (case hB => decide +kernel); simp only [Flow.textOf, List.map_cons, List.map_nil, Option.map_none, Option.map_some, Array.getD_eq_getD_getElem?, List.getElem?_toArray, List.getElem?_cons_zero, List.getElem?_cons_succ, Option.getD_some, Flow.wpFl, Flow.SameAll]) | (refine Flow.region_still mixed ?hB ?_; (case hB => decide +kernel)))
          go_at_call 22
          have hm6L : m'.mem.length ≤ 65536 := by have := flush_len m who; rw [← HRES.out] at this; dsimp only at this; omega
          refine (memory_is B R6 ids m' wL (HM6.out.fr HFL.out (fun z hz h => by have := HR6.out z hz; omega)) (by omega)).mono ?_
          rintro e w8 ⟨mb, mcb, rfl, ho8, hf8⟩
          have hf68 : Fr (fun z => z = w4.heap.size + 1) w6 w8 := HFL.out.trans hf8 (fun z _ h => h.elim)
          have hlen : m'.mem.length = m.mem.length := by have := flush_len m who; rw [← HRES.out] at this; exact this
          have HM8 := hid ((HM6.out.fr HFL.out (fun z hz h => by have := HR6.out z hz; omega)).fr hf8 (fun _ _ h => h))
          have HF8 := hid (HF6.out.trans hf68 (fun z hz h => by omega))
          have hb8 := HB6.out.fr hf68 (fun h => by omega)
          have hin8 := HIN6.out.fr hf68 (fun h => by omega)
          have hlk8 := HBL.out.fr hf8 (fun h => h)
          have HO18 := hid (HO16.out.fr hf68 (fun z hz h => by omega))
          have HO28 := hid (HO26.out.fr hf68 (fun z hz h => by omega))
          have HO8 := hid ho8
          have hs68 := hf68.size
          have d0 := hf68.cell c0 (fun h => by have : r0 = w4.heap.size + 1 := h; omega)
          have d1 := hf68.cell c1 (fun h => by have : r0 = w4.heap.size + 1 := h; omega)
          have HREG := hid (show ∀ j : Nat, j < 16 → w8.cell? ⟨w2.heap.size, 1 + j, none⟩ = some (.int .i64 (T.regs.getD j 0)) from fun j hj => (hb8.cell (1 + j)).trans (HVR.out j hj))
          have tw : w8.cell? ⟨w2.heap.size, 17, none⟩ = some (.slice ta T.wait.length tc) := (hb8.cell 17).trans HVW.out
          have i0 : w8.cell? ⟨w4.heap.size, 0, none⟩ = some (.int .i64 I.k) := (hin8.cell 0).trans rfl
          have i3 : w8.cell? ⟨w4.heap.size, 3, none⟩ = some (.int .i64 I.a) := (hin8.cell 3).trans rfl
          have i5 : w8.cell? ⟨w4.heap.size, 5, none⟩ = some (.int .i64 I.n) := (hin8.cell 5).trans rfl
          have k0 : w8.cell? ⟨w4.heap.size + 1, 0, none⟩ = some (.int .i64 kk) := (hlk8.cell 0).trans rfl
          have k1 : w8.cell? ⟨w4.heap.size + 1, 1, none⟩ = some (.int .i64 kt) := (hlk8.cell 1).trans rfl
          have k2 : w8.cell? ⟨w4.heap.size + 1, 2, none⟩ = some (.int .i64 kw) := (hlk8.cell 2).trans rfl
          have k3 : w8.cell? ⟨w4.heap.size + 1, 3, none⟩ = some (.int .i64 kn) := (hlk8.cell 3).trans rfl
          clear ho8 hf8 hf68 hb8 hin8 hlk8 c0 c1 HM6 HF6 HB6 HIN6 HLK6 HO16 HO26 HBL HFL
          go_wp2_with (first | fail | still_step | (with_reducible refine wpStill_nil ?_) | (with_reducible refine Flow.Both.mk ?_ ?_) | (with_reducible exact True.intro) | (with_reducible refine Flow.same_mk rfl rfl rfl ?_; go_simp; done) | (with_reducible exact Flow.same_un rfl rfl rfl) | (with_reducible refine Flow.region_flow (id := 27) [0, 1, 3, 7, 7, 31, 63, 127, 255, 511, 1023, 2047, 4095, 8191, 16383, 32767, 16383, 81919, 212991, 475135, 999423, 2097151, 4194303, 8388607, 16777215] 16 4185130 [(0, none), (1, none), (2, none), (3, none), (4, some [3]), (5, none), (6, none), (7, none), (8, none), (9, none), (10, none), (11, none), (12, none), (13, none), (14, none), (15, none), (16, none), (17, none), (18, none), (19, none), (20, none), (21, none), (22, none), (23, none), (24, none)] mixed ?hB ?_; (case hB => decide +kernel); simp only [Flow.textOf, List.map_cons, List.map_nil, Option.map_none, Option.map_some, Array.getD_eq_getD_getElem?, List.getElem?_toArray, List.getElem?_cons_zero, List.getElem?_cons_succ, Option.getD_some, Flow.wpFl, Flow.SameAll]) | (refine Flow.region_still mixed ?hB ?_; (case hB => decide +kernel)))
          go_loopw [19] (fun i wq => ∃ j : Nat, j ≤ m'.mem.length ∧ i = .int .i64 j ∧ Fr (fun _ => False) w8 wq) (fun i _ => m'.mem.length - (intOf i).toNat)
          case atStart => exact ⟨0, Nat.zero_le _, rfl, by (repeat' (first | with_reducible exact Fr.refl _ _ | with_reducible apply Fr.alloc | with_reducible apply Fr.drew | with_reducible apply Fr.drewN | (with_reducible refine Fr.setCell ?_ ?_ _)))⟩
          case round =>
            obtain ⟨j, hj, rfl, hfq⟩ := hrel
            have HFQ := hid hfq
            have d0_ := Fr.cell hfq d0 (fun h => h)
            clear d0
            have d0 := d0_
            clear d0_
            have d1_ := Fr.cell hfq d1 (fun h => h)
            clear d1
            have d1 := d1_
            clear d1_
            have tw_ := Fr.cell hfq tw (fun h => h)
            clear tw
            have tw := tw_
            clear tw_
            have i0_ := Fr.cell hfq i0 (fun h => h)
            clear i0
            have i0 := i0_
            clear i0_
            have i3_ := Fr.cell hfq i3 (fun h => h)
            clear i3
            have i3 := i3_
            clear i3_
            have i5_ := Fr.cell hfq i5 (fun h => h)
            clear i5
            have i5 := i5_
            clear i5_
            have k0_ := Fr.cell hfq k0 (fun h => h)
            clear k0
            have k0 := k0_
            clear k0_
            have k1_ := Fr.cell hfq k1 (fun h => h)
            clear k1
            have k1 := k1_
            clear k1_
            have k2_ := Fr.cell hfq k2 (fun h => h)
            clear k2
            have k2 := k2_
            clear k2_
            have k3_ := Fr.cell hfq k3 (fun h => h)
            clear k3
            have k3 := k3_
            clear k3_
            clear hfq
            by_cases hjl : j < m'.mem.length
            · have hjm : j < m.mem.length := by omega
              have hne : ints m'.mem ≠ [] := fun h => by have := ints_length m'.mem; rw [h] at this; simp at this; omega
              have hne2 : ints m.mem ≠ [] := fun h => by have := ints_length m.mem; rw [h] at this; simp at this; omega
              obtain ⟨nr, no, rfl, _, hcn⟩ := (HO8.out.fr HFQ.out (fun _ _ h => h)).vw.cell hne
              obtain ⟨ar, ao', rfl, _, hca⟩ := (HO18.out.fr HFQ.out (fun _ _ h => h)).vw.cell hne2
              have n0 := hcn j _ (ints_get m'.mem j hjl)
              have a0 := hca j _ (ints_get m.mem j hjm)
              clear hcn hca hne hne2
              by_cases heq : m'.mem.getD j 0 = m.mem.getD j 0
              · rw [heq] at n0
                generalize m.mem.getD j 0 = x at *
                clear heq
                go_wp2_with (first | fail | still_step | (with_reducible refine wpStill_nil ?_) | (with_reducible refine Flow.Both.mk ?_ ?_) | (with_reducible exact True.intro) | (with_reducible refine Flow.same_mk rfl rfl rfl ?_; go_simp; done) | (with_reducible exact Flow.same_un rfl rfl rfl) | (with_reducible refine Flow.region_flow (id := 27) [0, 1, 3, 7, 7, 31, 63, 127, 255, 511, 1023, 2047, 4095, 8191, 16383, 32767, 16383, 81919, 212991, 475135, 999423, 2097151, 4194303, 8388607, 16777215] 16 4185130 [(0, none), (1, none), (2, none), (3, none), (4, some [3]), (5, none), (6, none), (7, none), (8, none), (9, none), (10, none), (11, none), (12, none), (13, none), (14, none), (15, none), (16, none), (17, none), (18, none), (19, none), (20, none), (21, none), (22, none), (23, none), (24, none)] mixed ?hB ?_; (case hB => decide +kernel); simp only [Flow.textOf, List.map_cons, List.map_nil, Option.map_none, Option.map_some, Array.getD_eq_getD_getElem?, List.getElem?_toArray, List.getElem?_cons_zero, List.getElem?_cons_succ, Option.getD_some, Flow.wpFl, Flow.SameAll]) | (refine Flow.region_still mixed ?hB ?_; (case hB => decide +kernel)))
                go_roundw
                case rel => exact ⟨j + 1, by omega, by go_num, HFQ.out.drew⟩
                case measure => simp [intOf]; omega
              · obtain ⟨t, e, r, ht, hw, hk, hj2, hx⟩ := flush_word m who j (by rw [← HRES.out]; exact heq)
                rw [← HRES.out] at hk hx
                dsimp only at hk hx
                obtain ⟨rfl, rfl, rfl, rfl⟩ : kk = 4 ∧ kt = who ∧ kw = 0 ∧ kn = e.1 := by simpa using hk
                have hTw : T.wait = e :: r := by rw [HT.out, ht]; exact hw
                obtain ⟨tr, to, rfl, _, hct⟩ := (HO28.out.fr HFQ.out (fun _ _ h => h)).vw.cell (by rw [hTw]; simp [ent])
                have e1 : wr.cell? ⟨tr, to + 1, none⟩ = some (.int .i64 e.2) := hct 1 _ (by rw [hTw]; rfl)
                rw [hx] at n0
                have hne1 : ¬ (e.2 = m.mem.getD j 0) := fun h => heq (hx.trans h)
                have hTl : 0 < T.wait.length := by rw [hTw]; simp
                generalize m.mem.getD j 0 = x at *
                generalize T.wait.length = TL at *
                clear hct heq hTw hk hx
                obtain ⟨e1', e2'⟩ := e
                dsimp only at hj2 e1 n0 k3 hne1
                subst hj2
                go_wp2_with (first | fail | still_step | (with_reducible refine wpStill_nil ?_) | (with_reducible refine Flow.Both.mk ?_ ?_) | (with_reducible exact True.intro) | (with_reducible refine Flow.same_mk rfl rfl rfl ?_; go_simp; done) | (with_reducible exact Flow.same_un rfl rfl rfl) | (with_reducible refine Flow.region_flow (id := 27) [0, 1, 3, 7, 7, 31, 63, 127, 255, 511, 1023, 2047, 4095, 8191, 16383, 32767, 16383, 81919, 212991, 475135, 999423, 2097151, 4194303, 8388607, 16777215] 16 4185130 [(0, none), (1, none), (2, none), (3, none), (4, some [3]), (5, none), (6, none), (7, none), (8, none), (9, none), (10, none), (11, none), (12, none), (13, none), (14, none), (15, none), (16, none), (17, none), (18, none), (19, none), (20, none), (21, none), (22, none), (23, none), (24, none)] mixed ?hB ?_; (case hB => decide +kernel); simp only [Flow.textOf, List.map_cons, List.map_nil, Option.map_none, Option.map_some, Array.getD_eq_getD_getElem?, List.getElem?_toArray, List.getElem?_cons_zero, List.getElem?_cons_succ, Option.getD_some, Flow.wpFl, Flow.SameAll]) | (refine Flow.region_still mixed ?hB ?_; (case hB => decide +kernel)))
                go_roundw
                case rel => exact ⟨j + 1, by omega, by go_num, HFQ.out.drew⟩
                case measure => simp [intOf]; omega
            · obtain rfl : j = m'.mem.length := by omega
              have hgm : GoodM m' ∧ m'.events.length ≤ k + 1 := by
                have h := flush_good HG.out who
                rw [← HRES.out] at h
                exact ⟨h.1, by have := h.2.1; dsimp only at this; omega⟩
              have HFQ2 := hid HFQ.out.drew
              cases is with
              | false =>
                have hk := flush_none m who (by rw [← HRES.out])
                rw [← HRES.out] at hk
                obtain ⟨rfl, rfl, rfl, rfl⟩ : kk = 0 ∧ kt = 0 ∧ kw = 0 ∧ kn = 0 := by simpa [none_] using hk
                as_aux_lemma =>
                  go_wp2_with (first | fail | still_step | (with_reducible refine wpStill_nil ?_) | (with_reducible refine Flow.Both.mk ?_ ?_) | (with_reducible exact True.intro) | (with_reducible refine Flow.same_mk rfl rfl rfl ?_; go_simp; done) | (with_reducible exact Flow.same_un rfl rfl rfl) | (with_reducible refine Flow.region_flow (id := 27) [0, 1, 3, 7, 7, 31, 63, 127, 255, 511, 1023, 2047, 4095, 8191, 16383, 32767, 16383, 81919, 212991, 475135, 999423, 2097151, 4194303, 8388607, 16777215] 16 4185130 [(0, none), (1, none), (2, none), (3, none), (4, some [3]), (5, none), (6, none), (7, none), (8, none), (9, none), (10, none), (11, none), (12, none), (13, none), (14, none), (15, none), (16, none), (17, none), (18, none), (19, none), (20, none), (21, none), (22, none), (23, none), (24, none)] mixed ?hB ?_; (case hB => decide +kernel); simp only [Flow.textOf, List.map_cons, List.map_nil, Option.map_none, Option.map_some, Array.getD_eq_getD_getElem?, List.getElem?_toArray, List.getElem?_cons_zero, List.getElem?_cons_succ, Option.getD_some, Flow.wpFl, Flow.SameAll]) | (refine Flow.region_still mixed ?hB ?_; (case hB => decide +kernel)))
                  go_roundw
                  case rel => first | exact ⟨k + 1, R6, m', by omega, by go_num, HM8.out.fr HFQ2.out (fun _ _ h => h), hgm.1, hgm.2, by omega, fun z hz => (HR6.out z hz).1, HF8.out.trans HFQ2.out (fun _ _ h => h)⟩ | exact ⟨k + 1, R6, m', by omega, by go_num, HM8.out.fr HFQ.out (fun _ _ h => h), hgm.1, hgm.2, by omega, fun z hz => (HR6.out z hz).1, HF8.out.trans HFQ.out (fun _ _ h => h)⟩
                  case measure => simp [intOf]; omega
              | true =>
                obtain ⟨t, e, r, ht, hw, hk⟩ := flush_some m who (by rw [← HRES.out])
                rw [← HRES.out] at hk
                dsimp only at hk
                obtain ⟨rfl, rfl, rfl, rfl⟩ : kk = 4 ∧ kt = who ∧ kw = 0 ∧ kn = e.1 := by simpa using hk
                have hTw : T.wait = e :: r := by rw [HT.out, ht]; exact hw
                obtain ⟨tr, to, rfl, _, hct⟩ := (HO28.out.fr HFQ.out (fun _ _ h => h)).vw.cell (by rw [hTw]; simp [ent])
                have e0 : wr.cell? ⟨tr, to, none⟩ = some (.int .i64 e.1) := hct 0 _ (by rw [hTw]; rfl)
                have hTl : 0 < T.wait.length := by rw [hTw]; simp
                generalize T.wait.length = TL at *
                clear hct hTw hk
                generalize e.1 = x at *
                as_aux_lemma =>
                  go_wp2_with (first | fail | still_step | (with_reducible refine wpStill_nil ?_) | (with_reducible refine Flow.Both.mk ?_ ?_) | (with_reducible exact True.intro) | (with_reducible refine Flow.same_mk rfl rfl rfl ?_; go_simp; done) | (with_reducible exact Flow.same_un rfl rfl rfl) | (with_reducible refine Flow.region_flow (id := 27) [0, 1, 3, 7, 7, 31, 63, 127, 255, 511, 1023, 2047, 4095, 8191, 16383, 32767, 16383, 81919, 212991, 475135, 999423, 2097151, 4194303, 8388607, 16777215] 16 4185130 [(0, none), (1, none), (2, none), (3, none), (4, some [3]), (5, none), (6, none), (7, none), (8, none), (9, none), (10, none), (11, none), (12, none), (13, none), (14, none), (15, none), (16, none), (17, none), (18, none), (19, none), (20, none), (21, none), (22, none), (23, none), (24, none)] mixed ?hB ?_; (case hB => decide +kernel); simp only [Flow.textOf, List.map_cons, List.map_nil, Option.map_none, Option.map_some, Array.getD_eq_getD_getElem?, List.getElem?_toArray, List.getElem?_cons_zero, List.getElem?_cons_succ, Option.getD_some, Flow.wpFl, Flow.SameAll]) | (refine Flow.region_still mixed ?hB ?_; (case hB => decide +kernel)))
                  go_roundw
                  case rel => first | exact ⟨k + 1, R6, m', by omega, by go_num, HM8.out.fr HFQ2.out (fun _ _ h => h), hgm.1, hgm.2, by omega, fun z hz => (HR6.out z hz).1, HF8.out.trans HFQ2.out (fun _ _ h => h)⟩ | exact ⟨k + 1, R6, m', by omega, by go_num, HM8.out.fr HFQ.out (fun _ _ h => h), hgm.1, hgm.2, by omega, fun z hz => (HR6.out z hz).1, HF8.out.trans HFQ.out (fun _ _ h => h)⟩
                  case measure => simp [intOf]; omega
        | false =>
          go_wp2_with (first | fail | still_step | (with_reducible refine wpStill_nil ?_) | (with_reducible refine Flow.Both.mk ?_ ?_) | (with_reducible exact True.intro) | (with_reducible refine Flow.same_mk rfl rfl rfl ?_; go_simp; done) | (with_reducible exact Flow.same_un rfl rfl rfl) | (with_reducible refine Flow.region_flow (id := 27) [0, 1, 3, 7, 7, 31, 63, 127, 255, 511, 1023, 2047, 4095, 8191, 16383, 32767, 16383, 81919, 212991, 475135, 999423, 2097151, 4194303, 8388607, 16777215] 16 4185130 [(0, none), (1, none), (2, none), (3, none), (4, some [3]), (5, none), (6, none), (7, none), (8, none), (9, none), (10, none), (11, none), (12, none), (13, none), (14, none), (15, none), (16, none), (17, none), (18, none), (19, none), (20, none), (21, none), (22, none), (23, none), (24, none)] mixed ?hB ?_; (case hB => decide +kernel); simp only [Flow.textOf, List.map_cons, List.map_nil, Option.map_none, Option.map_some, Array.getD_eq_getD_getElem?, List.getElem?_toArray, List.getElem?_cons_zero, List.getElem?_cons_succ, Option.getD_some, Flow.wpFl, Flow.SameAll]) | (refine Flow.region_still mixed ?hB ?_; (case hB => decide +kernel)))
          go_at_call 16
          obtain ⟨w5, hw5, hf5⟩ : ∃ w5, w5 = (w4.alloc (.cells #[.int .i64 I.k, .int .i64 I.op, .int .i64 I.d, .int .i64 I.a, .int .i64 I.b, .int .i64 I.n, .int .i64 I.to] 41)).alloc (.cells #[.int .i64 0, .int .i64 0, .int .i64 0, .int .i64 0] 46) ∧ Fr (fun _ => False) w4 w5 := ⟨_, rfl, by (repeat' (first | with_reducible exact Fr.refl _ _ | with_reducible apply Fr.alloc | with_reducible apply Fr.drew | with_reducible apply Fr.drewN | (with_reducible refine Fr.setCell ?_ ?_ _)))⟩
          have hin : Blk w5 w4.heap.size #[.int .i64 I.k, .int .i64 I.op, .int .i64 I.d, .int .i64 I.a, .int .i64 I.b, .int .i64 I.n, .int .i64 I.to] 41 := by rw [hw5]; exact (Blk.new w4 _ _).alloc _
          have hlk : Blk w5 (w4.heap.size + 1) #[.int .i64 0, .int .i64 0, .int .i64 0, .int .i64 0] 46 := by rw [hw5]; exact Blk.new' (by simp)
          rw [← hw5]
          refine (step_is B R ids m who w5 (HM4.out.fr hf5 (fun _ _ h => h)) HG.out HEV.out).mono ?_
          rintro e w6 ⟨rfl, R6, hm6, hv6⟩
          have hs5 := hf5.size
          have hl5 := hlk.lt
          have HM6 := hid hm6
          have hR6 : ∀ z, R6 z → w.heap.size ≤ z := fun z hz => by
            rcases hv6.2.1 z hz with h | h
            · exact (HRL.out z h).1
            · omega
          have HR6 := hid (show ∀ z, R6 z → w.heap.size ≤ z ∧ z < w6.heap.size ∧ z ≠ w4.heap.size + 1 from fun z hz => ⟨hR6 z hz, hm6.lt z hz, by
            rcases hv6.2.1 z hz with h | h
            · have := HRL.out z h; omega
            · omega⟩)
          have HF6 := hid ((HF4.out.trans hf5 (fun _ _ h => h)).trans hv6.2.2 (fun z hz h => by have := HRL.out z h; omega))
          have HB6 := hid ((HB4.out.fr hf5 (fun h => h)).fr hv6.2.2 (fun h => by have := HRL.out _ h; omega))
          have HIN6 := hid (hin.fr hv6.2.2 (fun h => by have := HRL.out _ h; omega))
          have HLK6 := hid (hlk.fr hv6.2.2 (fun h => by have := HRL.out _ h; omega))
          have HO16 := hid ((HO14.out.fr hf5 (fun _ _ h => h)).fr hv6.2.2 (fun z hz h => by have := HRL.out z h; omega))
          have HO26 := hid ((HO24.out.fr hf5 (fun _ _ h => h)).fr hv6.2.2 (fun z hz h => by have := HRL.out z h; omega))
          have hs6 := hv6.2.2.size
          have c0 := hv6.2.2.cell (hf5.cell c0 (fun h => h)) (fun h => by have := (HRL.out r0 h).1; omega)
          have c1 := hv6.2.2.cell (hf5.cell c1 (fun h => h)) (fun h => by have := (HRL.out r0 h).1; omega)
          obtain ⟨res, hres⟩ : ∃ res, res = m.step who := ⟨_, rfl⟩
          rw [← hres] at HM6 ⊢
          obtain ⟨m', lk, is⟩ := res
          obtain ⟨kk, kt, kw, kn⟩ := lk
          dsimp only [leakV] at HM6 ⊢
          have HRES := hid hres
          clear hres hm6 hv6 hR6 hf5 hw5 hin hlk HM4 HF4 HB4 HO14 HO24
          go_wp2_with (first | ((with_reducible apply wpList_storeA (b := w4.heap.size + 1) (C := #[.int .i64 0, .int .i64 0, .int .i64 0, .int .i64 0]) (cells := #[.int .i64 kk, .int .i64 kt, .int .i64 kw, .int .i64 kn]) (T := 46)); (case zsx => rfl); (case zsy => rfl); (case zsn => rfl); (case zsi => exact szLK); (case zs1 => rfl); (case zsb => exact HLK6.out); intro wL hbL hfL hsL; have HBL := hid hbL; have HFL := hid hfL; clear hbL hfL) | still_step | (with_reducible refine wpStill_nil ?_) | (with_reducible refine Flow.Both.mk ?_ ?_) | (with_reducible exact True.intro) | (with_reducible refine Flow.same_mk rfl rfl rfl ?_; go_simp; done) | (with_reducible exact Flow.same_un rfl rfl rfl) | (with_reducible refine Flow.region_flow (id := 27) [0, 1, 3, 7, 7, 31, 63, 127, 255, 511, 1023, 2047, 4095, 8191, 16383, 32767, 16383, 81919, 212991, 475135, 999423, 2097151, 4194303, 8388607, 16777215] 16 4185130 [(0, none), (1, none), (2, none), (3, none), (4, some [3]), (5, none), (6, none), (7, none), (8, none), (9, none), (10, none), (11, none), (12, none), (13, none), (14, none), (15, none), (16, none), (17, none), (18, none), (19, none), (20, none), (21, none), (22, none), (23, none), (24, none)] mixed ?hB ?_; (case hB => decide +kernel); simp only [Flow.textOf, List.map_cons, List.map_nil, Option.map_none, Option.map_some, Array.getD_eq_getD_getElem?, List.getElem?_toArray, List.getElem?_cons_zero, List.getElem?_cons_succ, Option.getD_some, Flow.wpFl, Flow.SameAll]) | (refine Flow.region_still mixed ?hB ?_; (case hB => decide +kernel)))
          go_at_call 22
          have hm6L : m'.mem.length ≤ 65536 := by have := congrArg List.length (step_mem m who); rw [← HRES.out] at this; dsimp only at this; omega
          refine (memory_is B R6 ids m' wL (HM6.out.fr HFL.out (fun z hz h => by have := HR6.out z hz; omega)) (by omega)).mono ?_
          rintro e w8 ⟨mb, mcb, rfl, ho8, hf8⟩
          have hf68 : Fr (fun z => z = w4.heap.size + 1) w6 w8 := HFL.out.trans hf8 (fun z _ h => h.elim)
          have hlen : m'.mem.length = m.mem.length := by have := congrArg List.length (step_mem m who); rw [← HRES.out] at this; exact this
          have HM8 := hid ((HM6.out.fr HFL.out (fun z hz h => by have := HR6.out z hz; omega)).fr hf8 (fun _ _ h => h))
          have HF8 := hid (HF6.out.trans hf68 (fun z hz h => by omega))
          have hb8 := HB6.out.fr hf68 (fun h => by omega)
          have hin8 := HIN6.out.fr hf68 (fun h => by omega)
          have hlk8 := HBL.out.fr hf8 (fun h => h)
          have HO18 := hid (HO16.out.fr hf68 (fun z hz h => by omega))
          have HO28 := hid (HO26.out.fr hf68 (fun z hz h => by omega))
          have HO8 := hid ho8
          have hs68 := hf68.size
          have d0 := hf68.cell c0 (fun h => by have : r0 = w4.heap.size + 1 := h; omega)
          have d1 := hf68.cell c1 (fun h => by have : r0 = w4.heap.size + 1 := h; omega)
          have HREG := hid (show ∀ j : Nat, j < 16 → w8.cell? ⟨w2.heap.size, 1 + j, none⟩ = some (.int .i64 (T.regs.getD j 0)) from fun j hj => (hb8.cell (1 + j)).trans (HVR.out j hj))
          have tw : w8.cell? ⟨w2.heap.size, 17, none⟩ = some (.slice ta T.wait.length tc) := (hb8.cell 17).trans HVW.out
          have i0 : w8.cell? ⟨w4.heap.size, 0, none⟩ = some (.int .i64 I.k) := (hin8.cell 0).trans rfl
          have i3 : w8.cell? ⟨w4.heap.size, 3, none⟩ = some (.int .i64 I.a) := (hin8.cell 3).trans rfl
          have i5 : w8.cell? ⟨w4.heap.size, 5, none⟩ = some (.int .i64 I.n) := (hin8.cell 5).trans rfl
          have k0 : w8.cell? ⟨w4.heap.size + 1, 0, none⟩ = some (.int .i64 kk) := (hlk8.cell 0).trans rfl
          have k1 : w8.cell? ⟨w4.heap.size + 1, 1, none⟩ = some (.int .i64 kt) := (hlk8.cell 1).trans rfl
          have k2 : w8.cell? ⟨w4.heap.size + 1, 2, none⟩ = some (.int .i64 kw) := (hlk8.cell 2).trans rfl
          have k3 : w8.cell? ⟨w4.heap.size + 1, 3, none⟩ = some (.int .i64 kn) := (hlk8.cell 3).trans rfl
          clear ho8 hf8 hf68 hb8 hin8 hlk8 c0 c1 HM6 HF6 HB6 HIN6 HLK6 HO16 HO26 HBL HFL
          go_wp2_with (first | fail | still_step | (with_reducible refine wpStill_nil ?_) | (with_reducible refine Flow.Both.mk ?_ ?_) | (with_reducible exact True.intro) | (with_reducible refine Flow.same_mk rfl rfl rfl ?_; go_simp; done) | (with_reducible exact Flow.same_un rfl rfl rfl) | (with_reducible refine Flow.region_flow (id := 27) [0, 1, 3, 7, 7, 31, 63, 127, 255, 511, 1023, 2047, 4095, 8191, 16383, 32767, 16383, 81919, 212991, 475135, 999423, 2097151, 4194303, 8388607, 16777215] 16 4185130 [(0, none), (1, none), (2, none), (3, none), (4, some [3]), (5, none), (6, none), (7, none), (8, none), (9, none), (10, none), (11, none), (12, none), (13, none), (14, none), (15, none), (16, none), (17, none), (18, none), (19, none), (20, none), (21, none), (22, none), (23, none), (24, none)] mixed ?hB ?_; (case hB => decide +kernel); simp only [Flow.textOf, List.map_cons, List.map_nil, Option.map_none, Option.map_some, Array.getD_eq_getD_getElem?, List.getElem?_toArray, List.getElem?_cons_zero, List.getElem?_cons_succ, Option.getD_some, Flow.wpFl, Flow.SameAll]) | (refine Flow.region_still mixed ?hB ?_; (case hB => decide +kernel)))
          go_loopw [19] (fun i wq => ∃ j : Nat, j ≤ m'.mem.length ∧ i = .int .i64 j ∧ Fr (fun _ => False) w8 wq) (fun i _ => m'.mem.length - (intOf i).toNat)
          case atStart => exact ⟨0, Nat.zero_le _, rfl, by (repeat' (first | with_reducible exact Fr.refl _ _ | with_reducible apply Fr.alloc | with_reducible apply Fr.drew | with_reducible apply Fr.drewN | (with_reducible refine Fr.setCell ?_ ?_ _)))⟩
          case round =>
            obtain ⟨j, hj, rfl, hfq⟩ := hrel
            have HFQ := hid hfq
            have d0_ := Fr.cell hfq d0 (fun h => h)
            clear d0
            have d0 := d0_
            clear d0_
            have d1_ := Fr.cell hfq d1 (fun h => h)
            clear d1
            have d1 := d1_
            clear d1_
            have tw_ := Fr.cell hfq tw (fun h => h)
            clear tw
            have tw := tw_
            clear tw_
            have i0_ := Fr.cell hfq i0 (fun h => h)
            clear i0
            have i0 := i0_
            clear i0_
            have i3_ := Fr.cell hfq i3 (fun h => h)
            clear i3
            have i3 := i3_
            clear i3_
            have i5_ := Fr.cell hfq i5 (fun h => h)
            clear i5
            have i5 := i5_
            clear i5_
            have k0_ := Fr.cell hfq k0 (fun h => h)
            clear k0
            have k0 := k0_
            clear k0_
            have k1_ := Fr.cell hfq k1 (fun h => h)
            clear k1
            have k1 := k1_
            clear k1_
            have k2_ := Fr.cell hfq k2 (fun h => h)
            clear k2
            have k2 := k2_
            clear k2_
            have k3_ := Fr.cell hfq k3 (fun h => h)
            clear k3
            have k3 := k3_
            clear k3_
            clear hfq
            by_cases hjl : j < m'.mem.length
            · have hjm : j < m.mem.length := by omega
              have hne : ints m'.mem ≠ [] := fun h => by have := ints_length m'.mem; rw [h] at this; simp at this; omega
              have hne2 : ints m.mem ≠ [] := fun h => by have := ints_length m.mem; rw [h] at this; simp at this; omega
              obtain ⟨nr, no, rfl, _, hcn⟩ := (HO8.out.fr HFQ.out (fun _ _ h => h)).vw.cell hne
              obtain ⟨ar, ao', rfl, _, hca⟩ := (HO18.out.fr HFQ.out (fun _ _ h => h)).vw.cell hne2
              have n0 := hcn j _ (ints_get m'.mem j hjl)
              have a0 := hca j _ (ints_get m.mem j hjm)
              clear hcn hca hne hne2
              have hmm2 : m'.mem.getD j 0 = m.mem.getD j 0 := by
                have h := step_mem m who
                rw [← HRES.out] at h
                dsimp only at h
                rw [h]
              rw [hmm2] at n0
              generalize m.mem.getD j 0 = x at *
              clear hmm2
              go_wp2_with (first | fail | still_step | (with_reducible refine wpStill_nil ?_) | (with_reducible refine Flow.Both.mk ?_ ?_) | (with_reducible exact True.intro) | (with_reducible refine Flow.same_mk rfl rfl rfl ?_; go_simp; done) | (with_reducible exact Flow.same_un rfl rfl rfl) | (with_reducible refine Flow.region_flow (id := 27) [0, 1, 3, 7, 7, 31, 63, 127, 255, 511, 1023, 2047, 4095, 8191, 16383, 32767, 16383, 81919, 212991, 475135, 999423, 2097151, 4194303, 8388607, 16777215] 16 4185130 [(0, none), (1, none), (2, none), (3, none), (4, some [3]), (5, none), (6, none), (7, none), (8, none), (9, none), (10, none), (11, none), (12, none), (13, none), (14, none), (15, none), (16, none), (17, none), (18, none), (19, none), (20, none), (21, none), (22, none), (23, none), (24, none)] mixed ?hB ?_; (case hB => decide +kernel); simp only [Flow.textOf, List.map_cons, List.map_nil, Option.map_none, Option.map_some, Array.getD_eq_getD_getElem?, List.getElem?_toArray, List.getElem?_cons_zero, List.getElem?_cons_succ, Option.getD_some, Flow.wpFl, Flow.SameAll]) | (refine Flow.region_still mixed ?hB ?_; (case hB => decide +kernel)))
              go_roundw
              case rel => exact ⟨j + 1, by omega, by go_num, HFQ.out.drew⟩
              case measure => simp [intOf]; omega
            · obtain rfl : j = m'.mem.length := by omega
              have hgm : GoodM m' ∧ m'.events.length ≤ k + 1 := by
                have h := step_good HG.out who
                rw [← HRES.out] at h
                exact ⟨h.1, by have := h.2.1; dsimp only at this; omega⟩
              have HFQ2 := hid HFQ.out.drew
              cases is with
              | false =>
                have hk := step_none m who (by rw [← HRES.out])
                rw [← HRES.out] at hk
                obtain ⟨rfl, rfl, rfl, rfl⟩ : kk = 0 ∧ kt = 0 ∧ kw = 0 ∧ kn = 0 := by simpa [none_] using hk
                as_aux_lemma =>
                  go_wp2_with (first | fail | still_step | (with_reducible refine wpStill_nil ?_) | (with_reducible refine Flow.Both.mk ?_ ?_) | (with_reducible exact True.intro) | (with_reducible refine Flow.same_mk rfl rfl rfl ?_; go_simp; done) | (with_reducible exact Flow.same_un rfl rfl rfl) | (with_reducible refine Flow.region_flow (id := 27) [0, 1, 3, 7, 7, 31, 63, 127, 255, 511, 1023, 2047, 4095, 8191, 16383, 32767, 16383, 81919, 212991, 475135, 999423, 2097151, 4194303, 8388607, 16777215] 16 4185130 [(0, none), (1, none), (2, none), (3, none), (4, some [3]), (5, none), (6, none), (7, none), (8, none), (9, none), (10, none), (11, none), (12, none), (13, none), (14, none), (15, none), (16, none), (17, none), (18, none), (19, none), (20, none), (21, none), (22, none), (23, none), (24, none)] mixed ?hB ?_; (case hB => decide +kernel); simp only [Flow.textOf, List.map_cons, List.map_nil, Option.map_none, Option.map_some, Array.getD_eq_getD_getElem?, List.getElem?_toArray, List.getElem?_cons_zero, List.getElem?_cons_succ, Option.getD_some, Flow.wpFl, Flow.SameAll]) | (refine Flow.region_still mixed ?hB ?_; (case hB => decide +kernel)))
                  go_roundw
                  case rel => first | exact ⟨k + 1, R6, m', by omega, by go_num, HM8.out.fr HFQ2.out (fun _ _ h => h), hgm.1, hgm.2, by omega, fun z hz => (HR6.out z hz).1, HF8.out.trans HFQ2.out (fun _ _ h => h)⟩ | exact ⟨k + 1, R6, m', by omega, by go_num, HM8.out.fr HFQ.out (fun _ _ h => h), hgm.1, hgm.2, by omega, fun z hz => (HR6.out z hz).1, HF8.out.trans HFQ.out (fun _ _ h => h)⟩
                  case measure => simp [intOf]; omega
              | true =>
                obtain ⟨t, i, ht, hn, hth, h4, h5, h7, h9, h0⟩ := step_seen m who (by rw [← HRES.out])
                rw [← HRES.out] at hth h4 h5 h7 h9 h0
                dsimp only at hth h4 h5 h7 h9 h0
                obtain rfl : T = t := by rw [HT.out, ht]; rfl
                obtain rfl : I = i := by
                  rw [HI.out]
                  show ((m.th who).bind Th.next).getD noneI = i
                  rw [ht]
                  show (T.next).getD noneI = i
                  rw [hn]; rfl
                have hok : insOk T.code.length m.own.length I := HG.out _ T (th_get ht) I (next_mem hn)
                rw [hth] at k1
                obtain ⟨ik, iop, idd, ia, ib, inn, ito⟩ := I
                obtain ⟨q1, q2, _, _, _, _, qa, qb, _⟩ := hok
                dsimp only [Th.word, Th.reg] at i0 i3 i5 h4 h5 h7 h9 h0 q1 q2 qa qb
                clear hth hn ht
                by_cases ha : ia < 0
                · rw [if_pos ha] at h4 h5
                  obtain ⟨qk, rfl⟩ : (ik = 4 ∨ ik = 5) ∧ ia = -1 := by
                    rcases qa with h | h
                    · omega
                    · exact h
                  rcases qk with rfl | rfl
                  · obtain ⟨rfl, rfl⟩ := h4 rfl
                    clear h4 h5 h7 h9 h0 qa
                    as_aux_lemma =>
                      go_wp2_with (first | fail | still_step | (with_reducible refine wpStill_nil ?_) | (with_reducible refine Flow.Both.mk ?_ ?_) | (with_reducible exact True.intro) | (with_reducible refine Flow.same_mk rfl rfl rfl ?_; go_simp; done) | (with_reducible exact Flow.same_un rfl rfl rfl) | (with_reducible refine Flow.region_flow (id := 27) [0, 1, 3, 7, 7, 31, 63, 127, 255, 511, 1023, 2047, 4095, 8191, 16383, 32767, 16383, 81919, 212991, 475135, 999423, 2097151, 4194303, 8388607, 16777215] 16 4185130 [(0, none), (1, none), (2, none), (3, none), (4, some [3]), (5, none), (6, none), (7, none), (8, none), (9, none), (10, none), (11, none), (12, none), (13, none), (14, none), (15, none), (16, none), (17, none), (18, none), (19, none), (20, none), (21, none), (22, none), (23, none), (24, none)] mixed ?hB ?_; (case hB => decide +kernel); simp only [Flow.textOf, List.map_cons, List.map_nil, Option.map_none, Option.map_some, Array.getD_eq_getD_getElem?, List.getElem?_toArray, List.getElem?_cons_zero, List.getElem?_cons_succ, Option.getD_some, Flow.wpFl, Flow.SameAll]) | (refine Flow.region_still mixed ?hB ?_; (case hB => decide +kernel)))
                      go_roundw
                      case rel => first | exact ⟨k + 1, R6, m', by omega, by go_num, HM8.out.fr HFQ2.out (fun _ _ h => h), hgm.1, hgm.2, by omega, fun z hz => (HR6.out z hz).1, HF8.out.trans HFQ2.out (fun _ _ h => h)⟩ | exact ⟨k + 1, R6, m', by omega, by go_num, HM8.out.fr HFQ.out (fun _ _ h => h), hgm.1, hgm.2, by omega, fun z hz => (HR6.out z hz).1, HF8.out.trans HFQ.out (fun _ _ h => h)⟩
                      case measure => simp [intOf]; omega
                  · obtain ⟨rfl, rfl⟩ := h5 rfl
                    clear h4 h5 h7 h9 h0 qa
                    as_aux_lemma =>
                      go_wp2_with (first | fail | still_step | (with_reducible refine wpStill_nil ?_) | (with_reducible refine Flow.Both.mk ?_ ?_) | (with_reducible exact True.intro) | (with_reducible refine Flow.same_mk rfl rfl rfl ?_; go_simp; done) | (with_reducible exact Flow.same_un rfl rfl rfl) | (with_reducible refine Flow.region_flow (id := 27) [0, 1, 3, 7, 7, 31, 63, 127, 255, 511, 1023, 2047, 4095, 8191, 16383, 32767, 16383, 81919, 212991, 475135, 999423, 2097151, 4194303, 8388607, 16777215] 16 4185130 [(0, none), (1, none), (2, none), (3, none), (4, some [3]), (5, none), (6, none), (7, none), (8, none), (9, none), (10, none), (11, none), (12, none), (13, none), (14, none), (15, none), (16, none), (17, none), (18, none), (19, none), (20, none), (21, none), (22, none), (23, none), (24, none)] mixed ?hB ?_; (case hB => decide +kernel); simp only [Flow.textOf, List.map_cons, List.map_nil, Option.map_none, Option.map_some, Array.getD_eq_getD_getElem?, List.getElem?_toArray, List.getElem?_cons_zero, List.getElem?_cons_succ, Option.getD_some, Flow.wpFl, Flow.SameAll]) | (refine Flow.region_still mixed ?hB ?_; (case hB => decide +kernel)))
                      go_roundw
                      case rel => first | exact ⟨k + 1, R6, m', by omega, by go_num, HM8.out.fr HFQ2.out (fun _ _ h => h), hgm.1, hgm.2, by omega, fun z hz => (HR6.out z hz).1, HF8.out.trans HFQ2.out (fun _ _ h => h)⟩ | exact ⟨k + 1, R6, m', by omega, by go_num, HM8.out.fr HFQ.out (fun _ _ h => h), hgm.1, hgm.2, by omega, fun z hz => (HR6.out z hz).1, HF8.out.trans HFQ.out (fun _ _ h => h)⟩
                      case measure => simp [intOf]; omega
                · rw [if_neg ha] at h4 h5
                  obtain ⟨a, rfl⟩ : ∃ a : Nat, ia = a := ⟨ia.toNat, by omega⟩
                  have g0 := HFQ.out.cell (HREG.out a (by omega)) (fun h => h)
                  rw [show ((a : Nat) : Int).toNat = a by simp] at h4 h5 h7
                  generalize T.regs.getD a 0 = x at *
                  clear ha qa
                  by_cases e4 : ik = 4
                  · subst e4
                    obtain ⟨rfl, rfl⟩ := h4 rfl
                    clear h4 h5 h7 h9 h0
                    as_aux_lemma =>
                      go_wp2_with (first | fail | still_step | (with_reducible refine wpStill_nil ?_) | (with_reducible refine Flow.Both.mk ?_ ?_) | (with_reducible exact True.intro) | (with_reducible refine Flow.same_mk rfl rfl rfl ?_; go_simp; done) | (with_reducible exact Flow.same_un rfl rfl rfl) | (with_reducible refine Flow.region_flow (id := 27) [0, 1, 3, 7, 7, 31, 63, 127, 255, 511, 1023, 2047, 4095, 8191, 16383, 32767, 16383, 81919, 212991, 475135, 999423, 2097151, 4194303, 8388607, 16777215] 16 4185130 [(0, none), (1, none), (2, none), (3, none), (4, some [3]), (5, none), (6, none), (7, none), (8, none), (9, none), (10, none), (11, none), (12, none), (13, none), (14, none), (15, none), (16, none), (17, none), (18, none), (19, none), (20, none), (21, none), (22, none), (23, none), (24, none)] mixed ?hB ?_; (case hB => decide +kernel); simp only [Flow.textOf, List.map_cons, List.map_nil, Option.map_none, Option.map_some, Array.getD_eq_getD_getElem?, List.getElem?_toArray, List.getElem?_cons_zero, List.getElem?_cons_succ, Option.getD_some, Flow.wpFl, Flow.SameAll]) | (refine Flow.region_still mixed ?hB ?_; (case hB => decide +kernel)))
                      go_roundw
                      case rel => first | exact ⟨k + 1, R6, m', by omega, by go_num, HM8.out.fr HFQ2.out (fun _ _ h => h), hgm.1, hgm.2, by omega, fun z hz => (HR6.out z hz).1, HF8.out.trans HFQ2.out (fun _ _ h => h)⟩ | exact ⟨k + 1, R6, m', by omega, by go_num, HM8.out.fr HFQ.out (fun _ _ h => h), hgm.1, hgm.2, by omega, fun z hz => (HR6.out z hz).1, HF8.out.trans HFQ.out (fun _ _ h => h)⟩
                      case measure => simp [intOf]; omega
                  by_cases e5 : ik = 5
                  · subst e5
                    obtain ⟨rfl, rfl⟩ := h5 rfl
                    clear h4 h5 h7 h9 h0
                    as_aux_lemma =>
                      go_wp2_with (first | fail | still_step | (with_reducible refine wpStill_nil ?_) | (with_reducible refine Flow.Both.mk ?_ ?_) | (with_reducible exact True.intro) | (with_reducible refine Flow.same_mk rfl rfl rfl ?_; go_simp; done) | (with_reducible exact Flow.same_un rfl rfl rfl) | (with_reducible refine Flow.region_flow (id := 27) [0, 1, 3, 7, 7, 31, 63, 127, 255, 511, 1023, 2047, 4095, 8191, 16383, 32767, 16383, 81919, 212991, 475135, 999423, 2097151, 4194303, 8388607, 16777215] 16 4185130 [(0, none), (1, none), (2, none), (3, none), (4, some [3]), (5, none), (6, none), (7, none), (8, none), (9, none), (10, none), (11, none), (12, none), (13, none), (14, none), (15, none), (16, none), (17, none), (18, none), (19, none), (20, none), (21, none), (22, none), (23, none), (24, none)] mixed ?hB ?_; (case hB => decide +kernel); simp only [Flow.textOf, List.map_cons, List.map_nil, Option.map_none, Option.map_some, Array.getD_eq_getD_getElem?, List.getElem?_toArray, List.getElem?_cons_zero, List.getElem?_cons_succ, Option.getD_some, Flow.wpFl, Flow.SameAll]) | (refine Flow.region_still mixed ?hB ?_; (case hB => decide +kernel)))
                      go_roundw
                      case rel => first | exact ⟨k + 1, R6, m', by omega, by go_num, HM8.out.fr HFQ2.out (fun _ _ h => h), hgm.1, hgm.2, by omega, fun z hz => (HR6.out z hz).1, HF8.out.trans HFQ2.out (fun _ _ h => h)⟩ | exact ⟨k + 1, R6, m', by omega, by go_num, HM8.out.fr HFQ.out (fun _ _ h => h), hgm.1, hgm.2, by omega, fun z hz => (HR6.out z hz).1, HF8.out.trans HFQ.out (fun _ _ h => h)⟩
                      case measure => simp [intOf]; omega
                  by_cases e7 : ik = 7
                  · subst e7
                    obtain ⟨rfl, hx7⟩ := h7 rfl
                    clear h4 h5 h7 h9 h0
                    by_cases hx : x = 0
                    · obtain rfl := hx7.2 hx
                      subst hx
                      clear hx7
                      as_aux_lemma =>
                        go_wp2_with (first | fail | still_step | (with_reducible refine wpStill_nil ?_) | (with_reducible refine Flow.Both.mk ?_ ?_) | (with_reducible exact True.intro) | (with_reducible refine Flow.same_mk rfl rfl rfl ?_; go_simp; done) | (with_reducible exact Flow.same_un rfl rfl rfl) | (with_reducible refine Flow.region_flow (id := 27) [0, 1, 3, 7, 7, 31, 63, 127, 255, 511, 1023, 2047, 4095, 8191, 16383, 32767, 16383, 81919, 212991, 475135, 999423, 2097151, 4194303, 8388607, 16777215] 16 4185130 [(0, none), (1, none), (2, none), (3, none), (4, some [3]), (5, none), (6, none), (7, none), (8, none), (9, none), (10, none), (11, none), (12, none), (13, none), (14, none), (15, none), (16, none), (17, none), (18, none), (19, none), (20, none), (21, none), (22, none), (23, none), (24, none)] mixed ?hB ?_; (case hB => decide +kernel); simp only [Flow.textOf, List.map_cons, List.map_nil, Option.map_none, Option.map_some, Array.getD_eq_getD_getElem?, List.getElem?_toArray, List.getElem?_cons_zero, List.getElem?_cons_succ, Option.getD_some, Flow.wpFl, Flow.SameAll]) | (refine Flow.region_still mixed ?hB ?_; (case hB => decide +kernel)))
                        go_roundw
                        case rel => first | exact ⟨k + 1, R6, m', by omega, by go_num, HM8.out.fr HFQ2.out (fun _ _ h => h), hgm.1, hgm.2, by omega, fun z hz => (HR6.out z hz).1, HF8.out.trans HFQ2.out (fun _ _ h => h)⟩ | exact ⟨k + 1, R6, m', by omega, by go_num, HM8.out.fr HFQ.out (fun _ _ h => h), hgm.1, hgm.2, by omega, fun z hz => (HR6.out z hz).1, HF8.out.trans HFQ.out (fun _ _ h => h)⟩
                        case measure => simp [intOf]; omega
                    · have hx1 : ¬ kn = 1 := fun h => hx (hx7.1 h)
                      have hq1 : (kn == 1) = false := by simpa using hx1
                      have hq2 : (x == 0) = false := by simpa using hx
                      clear hx7
                      as_aux_lemma =>
                        go_wp2_with (first | fail | still_step | (with_reducible refine wpStill_nil ?_) | (with_reducible refine Flow.Both.mk ?_ ?_) | (with_reducible exact True.intro) | (with_reducible refine Flow.same_mk rfl rfl rfl ?_; go_simp; done) | (with_reducible exact Flow.same_un rfl rfl rfl) | (with_reducible refine Flow.region_flow (id := 27) [0, 1, 3, 7, 7, 31, 63, 127, 255, 511, 1023, 2047, 4095, 8191, 16383, 32767, 16383, 81919, 212991, 475135, 999423, 2097151, 4194303, 8388607, 16777215] 16 4185130 [(0, none), (1, none), (2, none), (3, none), (4, some [3]), (5, none), (6, none), (7, none), (8, none), (9, none), (10, none), (11, none), (12, none), (13, none), (14, none), (15, none), (16, none), (17, none), (18, none), (19, none), (20, none), (21, none), (22, none), (23, none), (24, none)] mixed ?hB ?_; (case hB => decide +kernel); simp only [Flow.textOf, List.map_cons, List.map_nil, Option.map_none, Option.map_some, Array.getD_eq_getD_getElem?, List.getElem?_toArray, List.getElem?_cons_zero, List.getElem?_cons_succ, Option.getD_some, Flow.wpFl, Flow.SameAll]) | (refine Flow.region_still mixed ?hB ?_; (case hB => decide +kernel)))
                        go_roundw
                        case rel => first | exact ⟨k + 1, R6, m', by omega, by go_num, HM8.out.fr HFQ2.out (fun _ _ h => h), hgm.1, hgm.2, by omega, fun z hz => (HR6.out z hz).1, HF8.out.trans HFQ2.out (fun _ _ h => h)⟩ | exact ⟨k + 1, R6, m', by omega, by go_num, HM8.out.fr HFQ.out (fun _ _ h => h), hgm.1, hgm.2, by omega, fun z hz => (HR6.out z hz).1, HF8.out.trans HFQ.out (fun _ _ h => h)⟩
                        case measure => simp [intOf]; omega
                  by_cases e9 : ik = 9 ∨ ik = 10 ∨ ik = 11 ∨ ik = 12 ∨ ik = 13
                  · obtain rfl := h9 e9
                    clear h4 h5 h7 h0 h9
                    rcases e9 with rfl | rfl | rfl | rfl | rfl
                    all_goals
                      as_aux_lemma =>
                        go_wp2_with (first | fail | still_step | (with_reducible refine wpStill_nil ?_) | (with_reducible refine Flow.Both.mk ?_ ?_) | (with_reducible exact True.intro) | (with_reducible refine Flow.same_mk rfl rfl rfl ?_; go_simp; done) | (with_reducible exact Flow.same_un rfl rfl rfl) | (with_reducible refine Flow.region_flow (id := 27) [0, 1, 3, 7, 7, 31, 63, 127, 255, 511, 1023, 2047, 4095, 8191, 16383, 32767, 16383, 81919, 212991, 475135, 999423, 2097151, 4194303, 8388607, 16777215] 16 4185130 [(0, none), (1, none), (2, none), (3, none), (4, some [3]), (5, none), (6, none), (7, none), (8, none), (9, none), (10, none), (11, none), (12, none), (13, none), (14, none), (15, none), (16, none), (17, none), (18, none), (19, none), (20, none), (21, none), (22, none), (23, none), (24, none)] mixed ?hB ?_; (case hB => decide +kernel); simp only [Flow.textOf, List.map_cons, List.map_nil, Option.map_none, Option.map_some, Array.getD_eq_getD_getElem?, List.getElem?_toArray, List.getElem?_cons_zero, List.getElem?_cons_succ, Option.getD_some, Flow.wpFl, Flow.SameAll]) | (refine Flow.region_still mixed ?hB ?_; (case hB => decide +kernel)))
                        go_roundw
                        case rel => first | exact ⟨k + 1, R6, m', by omega, by go_num, HM8.out.fr HFQ2.out (fun _ _ h => h), hgm.1, hgm.2, by omega, fun z hz => (HR6.out z hz).1, HF8.out.trans HFQ2.out (fun _ _ h => h)⟩ | exact ⟨k + 1, R6, m', by omega, by go_num, HM8.out.fr HFQ.out (fun _ _ h => h), hgm.1, hgm.2, by omega, fun z hz => (HR6.out z hz).1, HF8.out.trans HFQ.out (fun _ _ h => h)⟩
                        case measure => simp [intOf]; omega
                  · obtain rfl := h0 ⟨e4, e5, e7, by omega, by omega, by omega, by omega, by omega⟩
                    have e9' : ¬ ik = 9 := by omega
                    have e10 : ¬ ik = 10 := by omega
                    have e11 : ¬ ik = 11 := by omega
                    have e12 : ¬ ik = 12 := by omega
                    have e13 : ¬ ik = 13 := by omega
                    clear h4 h5 h7 h0 h9 e9
                    as_aux_lemma =>
                      go_wp2_with (first | fail | still_step | (with_reducible refine wpStill_nil ?_) | (with_reducible refine Flow.Both.mk ?_ ?_) | (with_reducible exact True.intro) | (with_reducible refine Flow.same_mk rfl rfl rfl ?_; go_simp; done) | (with_reducible exact Flow.same_un rfl rfl rfl) | (with_reducible refine Flow.region_flow (id := 27) [0, 1, 3, 7, 7, 31, 63, 127, 255, 511, 1023, 2047, 4095, 8191, 16383, 32767, 16383, 81919, 212991, 475135, 999423, 2097151, 4194303, 8388607, 16777215] 16 4185130 [(0, none), (1, none), (2, none), (3, none), (4, some [3]), (5, none), (6, none), (7, none), (8, none), (9, none), (10, none), (11, none), (12, none), (13, none), (14, none), (15, none), (16, none), (17, none), (18, none), (19, none), (20, none), (21, none), (22, none), (23, none), (24, none)] mixed ?hB ?_; (case hB => decide +kernel); simp only [Flow.textOf, List.map_cons, List.map_nil, Option.map_none, Option.map_some, Array.getD_eq_getD_getElem?, List.getElem?_toArray, List.getElem?_cons_zero, List.getElem?_cons_succ, Option.getD_some, Flow.wpFl, Flow.SameAll]) | (refine Flow.region_still mixed ?hB ?_; (case hB => decide +kernel)))
                      go_roundw
                      case rel => first | exact ⟨k + 1, R6, m', by omega, by go_num, HM8.out.fr HFQ2.out (fun _ _ h => h), hgm.1, hgm.2, by omega, fun z hz => (HR6.out z hz).1, HF8.out.trans HFQ2.out (fun _ _ h => h)⟩ | exact ⟨k + 1, R6, m', by omega, by go_num, HM8.out.fr HFQ.out (fun _ _ h => h), hgm.1, hgm.2, by omega, fun z hz => (HR6.out z hz).1, HF8.out.trans HFQ.out (fun _ _ h => h)⟩
                      case measure => simp [intOf]; omega
      · obtain rfl : k = l.length := by omega
        go_wp2_with (first | fail | still_step | (with_reducible refine wpStill_nil ?_) | (with_reducible refine Flow.Both.mk ?_ ?_) | (with_reducible exact True.intro) | (with_reducible refine Flow.same_mk rfl rfl rfl ?_; go_simp; done) | (with_reducible exact Flow.same_un rfl rfl rfl) | (with_reducible refine Flow.region_flow (id := 27) [0, 1, 3, 7, 7, 31, 63, 127, 255, 511, 1023, 2047, 4095, 8191, 16383, 32767, 16383, 81919, 212991, 475135, 999423, 2097151, 4194303, 8388607, 16777215] 16 4185130 [(0, none), (1, none), (2, none), (3, none), (4, some [3]), (5, none), (6, none), (7, none), (8, none), (9, none), (10, none), (11, none), (12, none), (13, none), (14, none), (15, none), (16, none), (17, none), (18, none), (19, none), (20, none), (21, none), (22, none), (23, none), (24, none)] mixed ?hB ?_; (case hB => decide +kernel); simp only [Flow.textOf, List.map_cons, List.map_nil, Option.map_none, Option.map_some, Array.getD_eq_getD_getElem?, List.getElem?_toArray, List.getElem?_cons_zero, List.getElem?_cons_succ, Option.getD_some, Flow.wpFl, Flow.SameAll]) | (refine Flow.region_still mixed ?hB ?_; (case hB => decide +kernel)))
        go_ret
        exact ⟨rfl, HF.out⟩
end Go.Proofs.Ytfekjgkhagcjgaa.Tso
