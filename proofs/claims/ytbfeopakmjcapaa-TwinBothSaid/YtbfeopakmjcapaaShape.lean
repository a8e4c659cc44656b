/-
  What may be an image: the checks of chapters 11, 20 and 25, as far as a law needs them.
-/
import Derived.Test.YtbfeopakmjcapaaTsoN
set_option linter.unusedVariables false
set_option linter.unusedSimpArgs false
set_option maxHeartbeats 4000000
set_option maxRecDepth 8000
namespace Go.Proofs.Ytbfeopakmjcapaa.Tso
open Go.RowKit Go.Proofs.Ytbfeopakmjcapaa.Seq
attribute [local irreducible] wpStill wpList Calls CallsIn

/-- A truth is told; if it is so, p holds. -/
def Tells (p : Prop) (w : World) (e : Ending) (w' : World) : Prop := ∃ x : Bool, e = .returned (.bool x) ∧ (x = true → p) ∧ Fr (fun _ => False) w w'

def hasB (s : ByteArray) (c : Nat) : Bool := s.data.toList.any fun x => x.toNat == c

theorem has_is (s : ByteArray) (c : Nat) (w : World) (hs : s.size ≤ 100) (hc : c < 256) :
    Calls Try.prog 88 #[.string s, .int .u8 (c : Int)] w fun e w' => e = .returned (.bool (hasB s c)) ∧ Fr (fun _ => False) w w' := by
  obtain ⟨r, hr⟩ : ∃ r, r = hasB s c := ⟨_, rfl⟩
  rw [← hr]
  have HRR := hid hr
  clear hr
  go_enter Try.func88, Try.ntmps88
  go_wp2_with (first | still_step | (with_reducible first | refine wpStill_nil ?_ | refine Flow.Both.mk ?_ ?_ | exact True.intro) | (with_reducible refine Flow.same_mk rfl rfl rfl ?_; go_simp; done) | (with_reducible exact Flow.same_un rfl rfl rfl) | (refine Flow.region_still mixed ?hB ?_; (case hB => decide +kernel)))
  go_loopw [5] (fun i wr => ∃ k : Nat, k ≤ s.size ∧ i = .int .i64 k ∧ (s.data.toList.take k).any (fun x => x.toNat == c) = false ∧ Fr (fun _ => False) w wr) (fun i _ => s.size - (intOf i).toNat)
  case atStart => exact ⟨0, Nat.zero_le _, rfl, rfl, Fr.refl _ _⟩
  case round =>
    obtain ⟨k, hk, rfl, hno, hf⟩ := hrel
    have HF := hid hf
    have HNO := hid hno
    clear hf hno
    by_cases hlt : k < s.size
    · have hkd : k < s.data.toList.length := by simpa using hlt
      have htk : s.data.toList.take (k + 1) = s.data.toList.take k ++ [s.data.toList[k]] := by rw [List.take_succ_eq_append_getElem hkd]
      have hget : s.data.toList[k] = s[k] := by simp [ByteArray.getElem_eq_getElem_data]
      obtain ⟨b, hb⟩ : ∃ b : Nat, b = s[k].toNat := ⟨_, rfl⟩
      by_cases he : b = c
      · have hrt : r = true := by
          rw [HRR.out]
          unfold hasB
          rw [List.any_eq_true]
          exact ⟨s.data.toList[k], List.getElem_mem _, by rw [hget, ← hb]; simpa using he⟩
        subst hrt
        have hx : (((s[k].toNat : Nat) : Int) == (c : Int)) = true := by rw [← hb]; simp; omega
        clear htk hget hb
        go_wp2_with (first | still_step | (with_reducible first | refine wpStill_nil ?_ | refine Flow.Both.mk ?_ ?_ | exact True.intro) | (with_reducible refine Flow.same_mk rfl rfl rfl ?_; go_simp; done) | (with_reducible exact Flow.same_un rfl rfl rfl) | (refine Flow.region_still mixed ?hB ?_; (case hB => decide +kernel)))
        go_ret
        exact ⟨rfl, HF.out⟩
      · have hx : (((s[k].toNat : Nat) : Int) == (c : Int)) = false := by rw [← hb]; simp; omega
        have hno2 : (s.data.toList.take (k + 1)).any (fun x => x.toNat == c) = false := by
          rw [htk, List.any_append, HNO.out, hget]
          simpa [← hb] using he
        have HNO2 := hid hno2
        clear htk hget hb hno2
        go_wp2_with (first | still_step | (with_reducible first | refine wpStill_nil ?_ | refine Flow.Both.mk ?_ ?_ | exact True.intro) | (with_reducible refine Flow.same_mk rfl rfl rfl ?_; go_simp; done) | (with_reducible exact Flow.same_un rfl rfl rfl) | (refine Flow.region_still mixed ?hB ?_; (case hB => decide +kernel)))
        exact ⟨⟨k + 1, by omega, by go_num, HNO2.out, HF.out⟩, by simp [intOf]; omega⟩
    · obtain rfl : k = s.size := by omega
      have hrf : r = false := by
        rw [HRR.out]
        unfold hasB
        have := HNO.out
        rwa [List.take_of_length_le (by simp)] at this
      subst hrf
      go_wp2_with (first | still_step | (with_reducible first | refine wpStill_nil ?_ | refine Flow.Both.mk ?_ ?_ | exact True.intro) | (with_reducible refine Flow.same_mk rfl rfl rfl ?_; go_simp; done) | (with_reducible exact Flow.same_un rfl rfl rfl) | (refine Flow.region_still mixed ?hB ?_; (case hB => decide +kernel)))
      go_ret
      exact ⟨rfl, HF.out⟩

theorem reg_is (n regs : Int) (own none_ : Bool) (w : World) :
    Calls Try.prog 87 #[.int .i64 n, .int .i64 regs, .bool own, .bool none_] w fun e w' => e = .returned (.bool (if own then (decide (0 ≤ n ∧ n < regs) || (none_ && n == -1)) else n == 0)) ∧ Fr (fun _ => False) w w' := by
  by_cases h1 : 0 ≤ n <;> by_cases h2 : n < regs <;> cases own <;> cases none_ <;>
  · go_enter Try.func87, Try.ntmps87
    go_wp2_with (first | still_step | (with_reducible first | refine wpStill_nil ?_ | refine Flow.Both.mk ?_ ?_ | exact True.intro) | (with_reducible refine Flow.same_mk rfl rfl rfl ?_; go_simp; done) | (with_reducible exact Flow.same_un rfl rfl rfl) | (refine Flow.region_still mixed ?hB ?_; (case hB => decide +kernel)))
    go_ret
    simp [h1, h2]
    first | done | exact Fr.refl _ _ | exact ⟨by omega, Fr.refl _ _⟩

def fieldL : List ByteArray := [(⟨#[68, 78]⟩ : ByteArray), (⟨#[68, 65]⟩ : ByteArray), (⟨#[68, 79, 65, 66]⟩ : ByteArray), (⟨#[68, 65, 66]⟩ : ByteArray), (⟨#[68, 65, 78]⟩ : ByteArray), (⟨#[65, 66, 78]⟩ : ByteArray), (⟨#[84]⟩ : ByteArray), (⟨#[65, 84]⟩ : ByteArray), (⟨#[46]⟩ : ByteArray), (⟨#[78]⟩ : ByteArray), (⟨#[78]⟩ : ByteArray), (⟨#[65]⟩ : ByteArray), (⟨#[78]⟩ : ByteArray), (⟨#[46]⟩ : ByteArray)]
def fieldsS (k : Int) : ByteArray := if 0 ≤ k ∧ k < 14 then fieldL.getD k.toNat ⟨#[]⟩ else ⟨#[]⟩

set_option maxHeartbeats 1000000 in
theorem fields_is (k : Int) (w : World) : Calls Try.prog 86 #[.int .i64 k] w fun e w' => e = .returned (.string (fieldsS k)) ∧ Fr (fun _ => False) w w' := by
  unfold fieldsS
  by_cases h0 : 0 ≤ k
  · by_cases h1 : k < 14
    · rw [if_pos ⟨h0, h1⟩]
      obtain ⟨j, rfl⟩ : ∃ j : Nat, k = j := ⟨k.toNat, by omega⟩
      have hj : j < 14 := by omega
      obtain ⟨s, hs⟩ : ∃ s, s = fieldL.getD j ⟨#[]⟩ := ⟨_, rfl⟩
      rw [show ((j : Nat) : Int).toNat = j by simp, ← hs]
      have hc : (w.alloc (.cells (fieldL.map Value.string).toArray 9)).cell? ⟨w.heap.size, j, none⟩ = some (.string s) := by
        rw [(Blk.new w _ _).cell]
        have : j < fieldL.length := hj
        simp [hs, this]
      simp only [fieldL, List.map_cons, List.map_nil] at hc
      clear hs h1
      go_enter Try.func86, Try.ntmps86
      go_wp2_with (first | still_step | (with_reducible first | refine wpStill_nil ?_ | refine Flow.Both.mk ?_ ?_ | exact True.intro) | (with_reducible refine Flow.same_mk rfl rfl rfl ?_; go_simp; done) | (with_reducible exact Flow.same_un rfl rfl rfl) | (refine Flow.region_still mixed ?hB ?_; (case hB => decide +kernel)))
      go_ret
      exact ⟨rfl, by (with_reducible repeat' (first | exact Fr.refl _ _ | apply Fr.alloc | apply Fr.drew | apply Fr.drewN | refine Fr.setCell ?_ ?_ _))⟩
    · rw [if_neg (fun h => h1 h.2)]
      go_enter Try.func86, Try.ntmps86
      go_wp2_with (first | still_step | (with_reducible first | refine wpStill_nil ?_ | refine Flow.Both.mk ?_ ?_ | exact True.intro) | (with_reducible refine Flow.same_mk rfl rfl rfl ?_; go_simp; done) | (with_reducible exact Flow.same_un rfl rfl rfl) | (refine Flow.region_still mixed ?hB ?_; (case hB => decide +kernel)))
      go_ret
      exact ⟨rfl, by (with_reducible repeat' (first | exact Fr.refl _ _ | apply Fr.alloc | apply Fr.drew | apply Fr.drewN | refine Fr.setCell ?_ ?_ _))⟩
  · rw [if_neg (fun h => h0 h.1)]
    go_enter Try.func86, Try.ntmps86
    go_wp2_with (first | still_step | (with_reducible first | refine wpStill_nil ?_ | refine Flow.Both.mk ?_ ?_ | exact True.intro) | (with_reducible refine Flow.same_mk rfl rfl rfl ?_; go_simp; done) | (with_reducible exact Flow.same_un rfl rfl rfl) | (refine Flow.region_still mixed ?hB ?_; (case hB => decide +kernel)))
    go_ret
    exact ⟨rfl, by (with_reducible repeat' (first | exact Fr.refl _ _ | apply Fr.alloc | apply Fr.drew | apply Fr.drewN | refine Fr.setCell ?_ ?_ _))⟩

def numOk (k n locks : Int) : Prop := ((k = 4 ∨ k = 5) → 0 ≤ n ∧ n ≤ 65535) ∧ ((k = 9 ∨ k = 10) → 0 ≤ n ∧ n < locks)

set_option maxHeartbeats 2000000 in
theorem number_is (k op d a b n to locks : Int) (w : World) :
    Calls Try.prog 89 #[.agg (insC ⟨k, op, d, a, b, n, to⟩).toArray, .int .i64 locks] w fun e w' => Tells (numOk k n locks) w e w' := by
  dsimp only [insC]
  go_enter Try.func89, Try.ntmps89
  go_wp2_with (first | still_step | (with_reducible first | refine wpStill_nil ?_ | refine Flow.Both.mk ?_ ?_ | exact True.intro) | (with_reducible refine Flow.same_mk rfl rfl rfl ?_; go_simp; done) | (with_reducible exact Flow.same_un rfl rfl rfl) | (refine Flow.region_still mixed ?hB ?_; (case hB => decide +kernel)))
  all_goals
    go_ret
    refine ⟨_, rfl, fun h => ?_, by (with_reducible repeat' (first | exact Fr.refl _ _ | apply Fr.alloc | apply Fr.drew | apply Fr.drewN | refine Fr.setCell ?_ ?_ _))⟩
    unfold numOk
    first | omega | (simp at h; done) | (simp at h ⊢; simp at *; omega) | (simp at *; omega)

theorem fieldsS_size (k : Int) : (fieldsS k).size ≤ 100 := by
  unfold fieldsS
  split
  · rename_i h
    have : ∀ j : Fin 14, (fieldL.getD j.val ⟨#[]⟩).size ≤ 100 := by decide +kernel
    exact this ⟨k.toNat, by omega⟩
  · decide
theorem fieldsS_toList (k : Int) (h : 0 ≤ k ∧ k < 14) : (fieldsS k).toList ≠ [] := by
  unfold fieldsS
  rw [if_pos h]
  have : ∀ j : Fin 14, ((fieldL.getD j.val ⟨#[]⟩).toList == []) = false := by decide +kernel
  intro e
  have h2 := this ⟨k.toNat, by omega⟩
  rw [e] at h2
  cases h2
theorem fieldsS_ne (k : Int) (h : 0 ≤ k ∧ k < 14) : (fieldsS k == ⟨#[]⟩) = false := by
  unfold fieldsS
  rw [if_pos h]
  have : ∀ j : Fin 14, (fieldL.getD j.val ⟨#[]⟩ == ⟨#[]⟩) = false := by decide +kernel
  exact this ⟨k.toNat, by omega⟩

def regOk (n regs : Int) (own none_ : Bool) : Bool := if own then (decide (0 ≤ n ∧ n < regs) || (none_ && n == -1)) else n == 0

theorem regE (n regs : Int) (own none_ : Bool) (w : World) :
    Calls Try.prog 87 #[.int .i64 n, .int .i64 regs, .bool own, .bool none_] w fun e w' => ∃ x, e = .returned (.bool x) ∧ x = regOk n regs own none_ ∧ Fr (fun _ => False) w w' :=
  (reg_is n regs own none_ w).mono fun e w' h => ⟨_, h.1, rfl, h.2⟩
theorem hasE (s : ByteArray) (c : Nat) (w : World) (hs : s.size ≤ 100) (hc : c < 256) :
    Calls Try.prog 88 #[.string s, .int .u8 (c : Int)] w fun e w' => ∃ x, e = .returned (.bool x) ∧ Fr (fun _ => False) w w' :=
  (has_is s c w hs hc).mono fun e w' h => ⟨_, h.1, h.2⟩
theorem fr_ud' {S : Nat → Prop} {w w1 : World} (h : Fr S w w1) : Fr S w w1 := h
theorem fr_ud {S : Nat → Prop} {w w1 : World} (h : Fr S w.drew w1) : Fr S w w1 := ⟨h.os, h.tape, h.output, h.size, h.block⟩
theorem reg_range {n : Int} {own : Bool} (h : true = regOk n 16 own false) : 0 ≤ n ∧ n < 16 := by
  unfold regOk at h
  cases own <;> simp at h <;> omega
theorem reg_range2 {n : Int} {own none_ : Bool} (h : true = regOk n 16 own none_) : (0 ≤ n ∨ (none_ = true ∧ n = -1)) ∧ n < 16 := by
  unfold regOk at h
  cases own <;> cases none_ <;> simp at h <;> simp <;> omega

set_option maxHeartbeats 8000000 in
theorem one_is (k op d a b n to size locks : Int) (w : World) :
    Calls Try.prog 69 #[.agg (insC ⟨k, op, d, a, b, n, to⟩).toArray, .int .i64 size, .int .i64 16, .int .i64 locks] w fun e w' => Tells (insOk size locks ⟨k, op, d, a, b, n, to⟩) w e w' := by
  by_cases hk : 0 ≤ k ∧ k < 14
  · have hne := fieldsS_ne k hk
    have HKK := hid hk
    have hn7 : ¬ ((fieldsS k).toList = []) := fieldsS_toList k hk
    have hn8 : ((fieldsS k).toList == []) = false := by simpa using hn7
    have hn9 : (fieldsS k).toList.isEmpty = false := by simpa using hn7
    have hn1 : ¬ (fieldsS k = ⟨#[]⟩) := fun e => by rw [e] at hne; cases hne
    have hn4 : ¬ ((fieldsS k).data = #[]) := fun e => hn1 (ByteArray.ext e)
    have hn6 : ¬ (fieldsS k = ByteArray.empty) := hn1
    have hfs := fieldsS_size k
    have hfi := fun w => fields_is k w
    generalize fieldsS k = f at *
    have HX := hid (Blk.new w (insC ⟨k, op, d, a, b, n, to⟩).toArray 57)
    have HNUM := hid (show ∀ (k op d a b n to locks : Int) (w : World), Calls Try.prog 89 #[.agg #[.int .i64 k, .int .i64 op, .int .i64 d, .int .i64 a, .int .i64 b, .int .i64 n, .int .i64 to], .int .i64 locks] w fun e w' => Tells (numOk k n locks) w e w' from fun k op d a b n to locks w => number_is k op d a b n to locks w)
    dsimp only [insC] at *
    go_enter Try.func69, Try.ntmps69
    go_wp2_with (first | still_step | (with_reducible first | refine wpStill_nil ?_ | refine Flow.Both.mk ?_ ?_ | exact True.intro) | (with_reducible refine Flow.same_mk rfl rfl rfl ?_; go_simp; done) | (with_reducible exact Flow.same_un rfl rfl rfl) | (with_reducible refine Flow.region_flow (id := 3) [0, 1, 3, 7, 15, 7, 7, 71, 255, 511, 1023, 2047, 4095, 8191, 4095, 4095, 36863, 4095, 262143, 524287, 1048575, 2097151, 4194303, 8388607, 4194303, 4194303, 37748735, 134217727, 268435455, 536870911] 201654656 281555482 [(0, none), (1, none), (2, none), (3, none), (4, none), (5, none), (6, none), (7, some [3, 4]), (8, some []), (9, none), (10, none), (11, none), (12, none), (13, none), (14, none), (15, none), (17, none), (16, some [12, 13]), (18, some []), (19, none), (20, none), (21, none), (22, none), (23, none), (24, none), (25, none), (26, some [22, 23]), (27, some []), (28, none), (29, none)] mixed ?hB ?_; (case hB => decide +kernel); simp only [Flow.textOf, Flow.q1, Flow.q2, Flow.q3, Flow.q4, Flow.q5, Flow.q6, Flow.q7, Flow.q8, Flow.q9, Flow.wpFl, Flow.SameAll]) | (refine Flow.region_still mixed ?hB ?_; (case hB => decide +kernel)))
    go_at_call 86
    refine (hfi _).mono ?_
    rintro e w1 ⟨rfl, hfq⟩
    have HWo := hid ((show Fr (fun _ => False) w _ by (with_reducible repeat' (first | exact Fr.refl _ _ | apply Fr.alloc | apply Fr.drew | apply Fr.drewN | refine Fr.setCell ?_ ?_ _))).trans hfq (fun _ _ h => h))
    have HXo := hid (HX.out.fr hfq (fun h => h))
    clear hfq hfi HX
    have c0_x := Blk.cell HXo.out 0
    have f0_x := Blk.free HXo.out 0
    have c1_x := Blk.cell HXo.out 1
    have f1_x := Blk.free HXo.out 1
    have c2_x := Blk.cell HXo.out 2
    have f2_x := Blk.free HXo.out 2
    have c3_x := Blk.cell HXo.out 3
    have f3_x := Blk.free HXo.out 3
    have c4_x := Blk.cell HXo.out 4
    have f4_x := Blk.free HXo.out 4
    have c5_x := Blk.cell HXo.out 5
    have f5_x := Blk.free HXo.out 5
    have c6_x := Blk.cell HXo.out 6
    have f6_x := Blk.free HXo.out 6
    have l_x := Blk.lt HXo.out
    go_wp2_with (first | still_step | (with_reducible first | refine wpStill_nil ?_ | refine Flow.Both.mk ?_ ?_ | exact True.intro) | (with_reducible refine Flow.same_mk rfl rfl rfl ?_; go_simp; done) | (with_reducible exact Flow.same_un rfl rfl rfl) | (with_reducible refine Flow.region_flow (id := 3) [0, 1, 3, 7, 15, 7, 7, 71, 255, 511, 1023, 2047, 4095, 8191, 4095, 4095, 36863, 4095, 262143, 524287, 1048575, 2097151, 4194303, 8388607, 4194303, 4194303, 37748735, 134217727, 268435455, 536870911] 201654656 281555482 [(0, none), (1, none), (2, none), (3, none), (4, none), (5, none), (6, none), (7, some [3, 4]), (8, some []), (9, none), (10, none), (11, none), (12, none), (13, none), (14, none), (15, none), (17, none), (16, some [12, 13]), (18, some []), (19, none), (20, none), (21, none), (22, none), (23, none), (24, none), (25, none), (26, some [22, 23]), (27, some []), (28, none), (29, none)] mixed ?hB ?_; (case hB => decide +kernel); simp only [Flow.textOf, Flow.q1, Flow.q2, Flow.q3, Flow.q4, Flow.q5, Flow.q6, Flow.q7, Flow.q8, Flow.q9, Flow.wpFl, Flow.SameAll]) | (refine Flow.region_still mixed ?hB ?_; (case hB => decide +kernel)))
    all_goals
      go_at_call 88
      refine (hasE f 68 _ hfs (by omega)).mono ?_
      rintro e w2 ⟨zD, rfl, hfq⟩
      have hfd : Fr (fun _ => False) w1 w2 := by first | exact hfq | exact fr_ud hfq
      have HWc := hid (HWo.out.trans hfd (fun _ _ h => h))
      have HXc := hid (HXo.out.fr hfd (fun h => h))
      clear hfd hfq c0_x c1_x c2_x c3_x c4_x c5_x c6_x HWo HXo
      have HWo := hid HWc.out
      have HXo := hid HXc.out
      clear HWc HXc
      have c0_x := HXo.out.cell 0
      have c1_x := HXo.out.cell 1
      have c2_x := HXo.out.cell 2
      have c3_x := HXo.out.cell 3
      have c4_x := HXo.out.cell 4
      have c5_x := HXo.out.cell 5
      have c6_x := HXo.out.cell 6
      have l_w2 := HXo.out.lt
      go_wp2_with (first | still_step | (with_reducible first | refine wpStill_nil ?_ | refine Flow.Both.mk ?_ ?_ | exact True.intro) | (with_reducible refine Flow.same_mk rfl rfl rfl ?_; go_simp; done) | (with_reducible exact Flow.same_un rfl rfl rfl) | (with_reducible refine Flow.region_flow (id := 3) [0, 1, 3, 7, 15, 7, 7, 71, 255, 511, 1023, 2047, 4095, 8191, 4095, 4095, 36863, 4095, 262143, 524287, 1048575, 2097151, 4194303, 8388607, 4194303, 4194303, 37748735, 134217727, 268435455, 536870911] 201654656 281555482 [(0, none), (1, none), (2, none), (3, none), (4, none), (5, none), (6, none), (7, some [3, 4]), (8, some []), (9, none), (10, none), (11, none), (12, none), (13, none), (14, none), (15, none), (17, none), (16, some [12, 13]), (18, some []), (19, none), (20, none), (21, none), (22, none), (23, none), (24, none), (25, none), (26, some [22, 23]), (27, some []), (28, none), (29, none)] mixed ?hB ?_; (case hB => decide +kernel); simp only [Flow.textOf, Flow.q1, Flow.q2, Flow.q3, Flow.q4, Flow.q5, Flow.q6, Flow.q7, Flow.q8, Flow.q9, Flow.wpFl, Flow.SameAll]) | (refine Flow.region_still mixed ?hB ?_; (case hB => decide +kernel)))
      go_at_call 87
      refine (regE _ _ _ _ _).mono ?_
      rintro e w3 ⟨xD, rfl, hxz, hfq⟩
      have hxD := hid hxz
      clear hxz
      have hfd : Fr (fun _ => False) w2 w3 := by first | exact hfq | exact fr_ud hfq
      have HWc := hid (HWo.out.trans hfd (fun _ _ h => h))
      have HXc := hid (HXo.out.fr hfd (fun h => h))
      clear hfd hfq c0_x c1_x c2_x c3_x c4_x c5_x c6_x HWo HXo
      have HWo := hid HWc.out
      have HXo := hid HXc.out
      clear HWc HXc
      have c0_x := HXo.out.cell 0
      have c1_x := HXo.out.cell 1
      have c2_x := HXo.out.cell 2
      have c3_x := HXo.out.cell 3
      have c4_x := HXo.out.cell 4
      have c5_x := HXo.out.cell 5
      have c6_x := HXo.out.cell 6
      have l_w3 := HXo.out.lt
      cases xD with
      | false =>
        go_wp2_with (first | still_step | (with_reducible first | refine wpStill_nil ?_ | refine Flow.Both.mk ?_ ?_ | exact True.intro) | (with_reducible refine Flow.same_mk rfl rfl rfl ?_; go_simp; done) | (with_reducible exact Flow.same_un rfl rfl rfl) | (with_reducible refine Flow.region_flow (id := 3) [0, 1, 3, 7, 15, 7, 7, 71, 255, 511, 1023, 2047, 4095, 8191, 4095, 4095, 36863, 4095, 262143, 524287, 1048575, 2097151, 4194303, 8388607, 4194303, 4194303, 37748735, 134217727, 268435455, 536870911] 201654656 281555482 [(0, none), (1, none), (2, none), (3, none), (4, none), (5, none), (6, none), (7, some [3, 4]), (8, some []), (9, none), (10, none), (11, none), (12, none), (13, none), (14, none), (15, none), (17, none), (16, some [12, 13]), (18, some []), (19, none), (20, none), (21, none), (22, none), (23, none), (24, none), (25, none), (26, some [22, 23]), (27, some []), (28, none), (29, none)] mixed ?hB ?_; (case hB => decide +kernel); simp only [Flow.textOf, Flow.q1, Flow.q2, Flow.q3, Flow.q4, Flow.q5, Flow.q6, Flow.q7, Flow.q8, Flow.q9, Flow.wpFl, Flow.SameAll]) | (refine Flow.region_still mixed ?hB ?_; (case hB => decide +kernel)))
        go_ret
        exact ⟨false, rfl, fun h => absurd h (by decide), by first | exact HWo.out | exact HWo.out.drew⟩
      | true =>
        have hdr := reg_range hxD.out
        go_wp2_with (first | still_step | (with_reducible first | refine wpStill_nil ?_ | refine Flow.Both.mk ?_ ?_ | exact True.intro) | (with_reducible refine Flow.same_mk rfl rfl rfl ?_; go_simp; done) | (with_reducible exact Flow.same_un rfl rfl rfl) | (with_reducible refine Flow.region_flow (id := 3) [0, 1, 3, 7, 15, 7, 7, 71, 255, 511, 1023, 2047, 4095, 8191, 4095, 4095, 36863, 4095, 262143, 524287, 1048575, 2097151, 4194303, 8388607, 4194303, 4194303, 37748735, 134217727, 268435455, 536870911] 201654656 281555482 [(0, none), (1, none), (2, none), (3, none), (4, none), (5, none), (6, none), (7, some [3, 4]), (8, some []), (9, none), (10, none), (11, none), (12, none), (13, none), (14, none), (15, none), (17, none), (16, some [12, 13]), (18, some []), (19, none), (20, none), (21, none), (22, none), (23, none), (24, none), (25, none), (26, some [22, 23]), (27, some []), (28, none), (29, none)] mixed ?hB ?_; (case hB => decide +kernel); simp only [Flow.textOf, Flow.q1, Flow.q2, Flow.q3, Flow.q4, Flow.q5, Flow.q6, Flow.q7, Flow.q8, Flow.q9, Flow.wpFl, Flow.SameAll]) | (refine Flow.region_still mixed ?hB ?_; (case hB => decide +kernel)))
        go_at_call 88
        refine (hasE f 65 _ hfs (by omega)).mono ?_
        rintro e w4 ⟨zA, rfl, hfq⟩
        have hfd : Fr (fun _ => False) w3 w4 := by first | exact hfq | exact fr_ud hfq
        have HWc := hid (HWo.out.trans hfd (fun _ _ h => h))
        have HXc := hid (HXo.out.fr hfd (fun h => h))
        clear hfd hfq c0_x c1_x c2_x c3_x c4_x c5_x c6_x HWo HXo
        have HWo := hid HWc.out
        have HXo := hid HXc.out
        clear HWc HXc
        have c0_x := HXo.out.cell 0
        have c1_x := HXo.out.cell 1
        have c2_x := HXo.out.cell 2
        have c3_x := HXo.out.cell 3
        have c4_x := HXo.out.cell 4
        have c5_x := HXo.out.cell 5
        have c6_x := HXo.out.cell 6
        have l_w4 := HXo.out.lt
        go_wp2_with (first | still_step | (with_reducible first | refine wpStill_nil ?_ | refine Flow.Both.mk ?_ ?_ | exact True.intro) | (with_reducible refine Flow.same_mk rfl rfl rfl ?_; go_simp; done) | (with_reducible exact Flow.same_un rfl rfl rfl) | (with_reducible refine Flow.region_flow (id := 3) [0, 1, 3, 7, 15, 7, 7, 71, 255, 511, 1023, 2047, 4095, 8191, 4095, 4095, 36863, 4095, 262143, 524287, 1048575, 2097151, 4194303, 8388607, 4194303, 4194303, 37748735, 134217727, 268435455, 536870911] 201654656 281555482 [(0, none), (1, none), (2, none), (3, none), (4, none), (5, none), (6, none), (7, some [3, 4]), (8, some []), (9, none), (10, none), (11, none), (12, none), (13, none), (14, none), (15, none), (17, none), (16, some [12, 13]), (18, some []), (19, none), (20, none), (21, none), (22, none), (23, none), (24, none), (25, none), (26, some [22, 23]), (27, some []), (28, none), (29, none)] mixed ?hB ?_; (case hB => decide +kernel); simp only [Flow.textOf, Flow.q1, Flow.q2, Flow.q3, Flow.q4, Flow.q5, Flow.q6, Flow.q7, Flow.q8, Flow.q9, Flow.wpFl, Flow.SameAll]) | (refine Flow.region_still mixed ?hB ?_; (case hB => decide +kernel)))
        go_at_call 87
        refine (regE _ _ _ _ _).mono ?_
        rintro e w5 ⟨xA, rfl, hxz, hfq⟩
        have hxA := hid hxz
        clear hxz
        have hfd : Fr (fun _ => False) w4 w5 := by first | exact hfq | exact fr_ud hfq
        have HWc := hid (HWo.out.trans hfd (fun _ _ h => h))
        have HXc := hid (HXo.out.fr hfd (fun h => h))
        clear hfd hfq c0_x c1_x c2_x c3_x c4_x c5_x c6_x HWo HXo
        have HWo := hid HWc.out
        have HXo := hid HXc.out
        clear HWc HXc
        have c0_x := HXo.out.cell 0
        have c1_x := HXo.out.cell 1
        have c2_x := HXo.out.cell 2
        have c3_x := HXo.out.cell 3
        have c4_x := HXo.out.cell 4
        have c5_x := HXo.out.cell 5
        have c6_x := HXo.out.cell 6
        have l_w5 := HXo.out.lt
        cases xA with
        | false =>
          go_wp2_with (first | still_step | (with_reducible first | refine wpStill_nil ?_ | refine Flow.Both.mk ?_ ?_ | exact True.intro) | (with_reducible refine Flow.same_mk rfl rfl rfl ?_; go_simp; done) | (with_reducible exact Flow.same_un rfl rfl rfl) | (with_reducible refine Flow.region_flow (id := 3) [0, 1, 3, 7, 15, 7, 7, 71, 255, 511, 1023, 2047, 4095, 8191, 4095, 4095, 36863, 4095, 262143, 524287, 1048575, 2097151, 4194303, 8388607, 4194303, 4194303, 37748735, 134217727, 268435455, 536870911] 201654656 281555482 [(0, none), (1, none), (2, none), (3, none), (4, none), (5, none), (6, none), (7, some [3, 4]), (8, some []), (9, none), (10, none), (11, none), (12, none), (13, none), (14, none), (15, none), (17, none), (16, some [12, 13]), (18, some []), (19, none), (20, none), (21, none), (22, none), (23, none), (24, none), (25, none), (26, some [22, 23]), (27, some []), (28, none), (29, none)] mixed ?hB ?_; (case hB => decide +kernel); simp only [Flow.textOf, Flow.q1, Flow.q2, Flow.q3, Flow.q4, Flow.q5, Flow.q6, Flow.q7, Flow.q8, Flow.q9, Flow.wpFl, Flow.SameAll]) | (refine Flow.region_still mixed ?hB ?_; (case hB => decide +kernel)))
          go_ret
          exact ⟨false, rfl, fun h => absurd h (by decide), by first | exact HWo.out | exact HWo.out.drew⟩
        | true =>
          have har := reg_range2 hxA.out
          go_wp2_with (first | still_step | (with_reducible first | refine wpStill_nil ?_ | refine Flow.Both.mk ?_ ?_ | exact True.intro) | (with_reducible refine Flow.same_mk rfl rfl rfl ?_; go_simp; done) | (with_reducible exact Flow.same_un rfl rfl rfl) | (with_reducible refine Flow.region_flow (id := 3) [0, 1, 3, 7, 15, 7, 7, 71, 255, 511, 1023, 2047, 4095, 8191, 4095, 4095, 36863, 4095, 262143, 524287, 1048575, 2097151, 4194303, 8388607, 4194303, 4194303, 37748735, 134217727, 268435455, 536870911] 201654656 281555482 [(0, none), (1, none), (2, none), (3, none), (4, none), (5, none), (6, none), (7, some [3, 4]), (8, some []), (9, none), (10, none), (11, none), (12, none), (13, none), (14, none), (15, none), (17, none), (16, some [12, 13]), (18, some []), (19, none), (20, none), (21, none), (22, none), (23, none), (24, none), (25, none), (26, some [22, 23]), (27, some []), (28, none), (29, none)] mixed ?hB ?_; (case hB => decide +kernel); simp only [Flow.textOf, Flow.q1, Flow.q2, Flow.q3, Flow.q4, Flow.q5, Flow.q6, Flow.q7, Flow.q8, Flow.q9, Flow.wpFl, Flow.SameAll]) | (refine Flow.region_still mixed ?hB ?_; (case hB => decide +kernel)))
          go_at_call 88
          refine (hasE f 66 _ hfs (by omega)).mono ?_
          rintro e w6 ⟨zB, rfl, hfq⟩
          have hfd : Fr (fun _ => False) w5 w6 := by first | exact hfq | exact fr_ud hfq
          have HWc := hid (HWo.out.trans hfd (fun _ _ h => h))
          have HXc := hid (HXo.out.fr hfd (fun h => h))
          clear hfd hfq c0_x c1_x c2_x c3_x c4_x c5_x c6_x HWo HXo
          have HWo := hid HWc.out
          have HXo := hid HXc.out
          clear HWc HXc
          have c0_x := HXo.out.cell 0
          have c1_x := HXo.out.cell 1
          have c2_x := HXo.out.cell 2
          have c3_x := HXo.out.cell 3
          have c4_x := HXo.out.cell 4
          have c5_x := HXo.out.cell 5
          have c6_x := HXo.out.cell 6
          have l_w6 := HXo.out.lt
          go_wp2_with (first | still_step | (with_reducible first | refine wpStill_nil ?_ | refine Flow.Both.mk ?_ ?_ | exact True.intro) | (with_reducible refine Flow.same_mk rfl rfl rfl ?_; go_simp; done) | (with_reducible exact Flow.same_un rfl rfl rfl) | (with_reducible refine Flow.region_flow (id := 3) [0, 1, 3, 7, 15, 7, 7, 71, 255, 511, 1023, 2047, 4095, 8191, 4095, 4095, 36863, 4095, 262143, 524287, 1048575, 2097151, 4194303, 8388607, 4194303, 4194303, 37748735, 134217727, 268435455, 536870911] 201654656 281555482 [(0, none), (1, none), (2, none), (3, none), (4, none), (5, none), (6, none), (7, some [3, 4]), (8, some []), (9, none), (10, none), (11, none), (12, none), (13, none), (14, none), (15, none), (17, none), (16, some [12, 13]), (18, some []), (19, none), (20, none), (21, none), (22, none), (23, none), (24, none), (25, none), (26, some [22, 23]), (27, some []), (28, none), (29, none)] mixed ?hB ?_; (case hB => decide +kernel); simp only [Flow.textOf, Flow.q1, Flow.q2, Flow.q3, Flow.q4, Flow.q5, Flow.q6, Flow.q7, Flow.q8, Flow.q9, Flow.wpFl, Flow.SameAll]) | (refine Flow.region_still mixed ?hB ?_; (case hB => decide +kernel)))
          go_at_call 87
          refine (regE _ _ _ _ _).mono ?_
          rintro e w7 ⟨xB, rfl, hxz, hfq⟩
          have hxB := hid hxz
          clear hxz
          have hfd : Fr (fun _ => False) w6 w7 := by first | exact hfq | exact fr_ud hfq
          have HWc := hid (HWo.out.trans hfd (fun _ _ h => h))
          have HXc := hid (HXo.out.fr hfd (fun h => h))
          clear hfd hfq c0_x c1_x c2_x c3_x c4_x c5_x c6_x HWo HXo
          have HWo := hid HWc.out
          have HXo := hid HXc.out
          clear HWc HXc
          have c0_x := HXo.out.cell 0
          have c1_x := HXo.out.cell 1
          have c2_x := HXo.out.cell 2
          have c3_x := HXo.out.cell 3
          have c4_x := HXo.out.cell 4
          have c5_x := HXo.out.cell 5
          have c6_x := HXo.out.cell 6
          have l_w7 := HXo.out.lt
          cases xB with
          | false =>
            go_wp2_with (first | still_step | (with_reducible first | refine wpStill_nil ?_ | refine Flow.Both.mk ?_ ?_ | exact True.intro) | (with_reducible refine Flow.same_mk rfl rfl rfl ?_; go_simp; done) | (with_reducible exact Flow.same_un rfl rfl rfl) | (with_reducible refine Flow.region_flow (id := 3) [0, 1, 3, 7, 15, 7, 7, 71, 255, 511, 1023, 2047, 4095, 8191, 4095, 4095, 36863, 4095, 262143, 524287, 1048575, 2097151, 4194303, 8388607, 4194303, 4194303, 37748735, 134217727, 268435455, 536870911] 201654656 281555482 [(0, none), (1, none), (2, none), (3, none), (4, none), (5, none), (6, none), (7, some [3, 4]), (8, some []), (9, none), (10, none), (11, none), (12, none), (13, none), (14, none), (15, none), (17, none), (16, some [12, 13]), (18, some []), (19, none), (20, none), (21, none), (22, none), (23, none), (24, none), (25, none), (26, some [22, 23]), (27, some []), (28, none), (29, none)] mixed ?hB ?_; (case hB => decide +kernel); simp only [Flow.textOf, Flow.q1, Flow.q2, Flow.q3, Flow.q4, Flow.q5, Flow.q6, Flow.q7, Flow.q8, Flow.q9, Flow.wpFl, Flow.SameAll]) | (refine Flow.region_still mixed ?hB ?_; (case hB => decide +kernel)))
            go_ret
            exact ⟨false, rfl, fun h => absurd h (by decide), by first | exact HWo.out | exact HWo.out.drew⟩
          | true =>
            have hbr := reg_range hxB.out
            clear hxD hxB hxA
            go_wp2_with (first | (go_at_call 88; (first | refine (hasE f 79 _ hfs (by omega)).mono ?_ | refine (hasE f 78 _ hfs (by omega)).mono ?_ | refine (hasE f 84 _ hfs (by omega)).mono ?_); rintro e wq ⟨zz, rfl, hfq⟩; have hfd := (fr_ud' hfq); have HWc := hid (HWo.out.trans hfd (fun _ _ h => h)); have HXc := hid (HXo.out.fr hfd (fun h => h)); clear hfd hfq c0_x c1_x c2_x c3_x c4_x c5_x c6_x HWo HXo; have HWo := hid HWc.out; have HXo := hid HXc.out; clear HWc HXc; have c0_x := HXo.out.cell 0; have c1_x := HXo.out.cell 1; have c2_x := HXo.out.cell 2; have c3_x := HXo.out.cell 3; have c4_x := HXo.out.cell 4; have c5_x := HXo.out.cell 5; have c6_x := HXo.out.cell 6; have l_x := HXo.out.lt; (cases zz)) | (go_at_call 89; refine (HNUM.out _ _ _ _ _ _ _ _ _).mono ?_; rintro e wq ⟨zz, rfl, hnu, hfq⟩; have HNU := hid hnu; clear hnu; have hfd := (fr_ud' hfq); have HWc := hid (HWo.out.trans hfd (fun _ _ h => h)); have HXc := hid (HXo.out.fr hfd (fun h => h)); clear hfd hfq c0_x c1_x c2_x c3_x c4_x c5_x c6_x HWo HXo; have HWo := hid HWc.out; have HXo := hid HXc.out; clear HWc HXc; have c0_x := HXo.out.cell 0; have c1_x := HXo.out.cell 1; have c2_x := HXo.out.cell 2; have c3_x := HXo.out.cell 3; have c4_x := HXo.out.cell 4; have c5_x := HXo.out.cell 5; have c6_x := HXo.out.cell 6; have l_x := HXo.out.lt; (cases zz)) | still_step | (with_reducible first | refine wpStill_nil ?_ | refine Flow.Both.mk ?_ ?_ | exact True.intro) | (with_reducible refine Flow.same_mk rfl rfl rfl ?_; go_simp; done) | (with_reducible exact Flow.same_un rfl rfl rfl) | (with_reducible refine Flow.region_flow (id := 3) [0, 1, 3, 7, 15, 7, 7, 71, 255, 511, 1023, 2047, 4095, 8191, 4095, 4095, 36863, 4095, 262143, 524287, 1048575, 2097151, 4194303, 8388607, 4194303, 4194303, 37748735, 134217727, 268435455, 536870911] 201654656 281555482 [(0, none), (1, none), (2, none), (3, none), (4, none), (5, none), (6, none), (7, some [3, 4]), (8, some []), (9, none), (10, none), (11, none), (12, none), (13, none), (14, none), (15, none), (17, none), (16, some [12, 13]), (18, some []), (19, none), (20, none), (21, none), (22, none), (23, none), (24, none), (25, none), (26, some [22, 23]), (27, some []), (28, none), (29, none)] mixed ?hB ?_; (case hB => decide +kernel); simp only [Flow.textOf, Flow.q1, Flow.q2, Flow.q3, Flow.q4, Flow.q5, Flow.q6, Flow.q7, Flow.q8, Flow.q9, Flow.wpFl, Flow.SameAll]) | (refine Flow.region_still mixed ?hB ?_; (case hB => decide +kernel)))
            all_goals
              go_ret
              refine ⟨_, rfl, fun h => ?_, by first | exact HWo.out | exact HWo.out.drew⟩
              first
                | exact absurd h (by decide)
                | (obtain ⟨n1, n2⟩ := HNU.out (by first | rfl | exact True.intro)
                   have hk := HKK.out
                   have ha3 : 0 ≤ a ∨ ((k = 4 ∨ k = 5) ∧ a = -1) := by
                     rcases har.1 with h0 | ⟨h1, h2⟩
                     · exact .inl h0
                     · right
                       refine ⟨?_, h2⟩
                       first | omega | (simp at h1; omega) | (simp at *; omega)
                   show 0 ≤ k ∧ k ≤ 13 ∧ 0 ≤ d ∧ d < 16 ∧ 0 ≤ b ∧ b < 16 ∧ (0 ≤ a ∨ ((k = 4 ∨ k = 5) ∧ a = -1)) ∧ a < 16 ∧ 0 ≤ op ∧ op ≤ 18 ∧ 0 ≤ to ∧ to < size ∧ ((k = 9 ∨ k = 10) → 0 ≤ n ∧ n < locks) ∧ ((k = 4 ∨ k = 5) → 0 ≤ n ∧ n ≤ 65535)
                   first
                     | exact ⟨by omega, by omega, hdr.1, hdr.2, hbr.1, hbr.2, ha3, har.2, by omega, by omega, by omega, by omega, (by intro hh; first | exact n2 hh | omega | (have := n2 (by omega); omega)), (by intro hh; first | exact n1 hh | omega | (have := n1 (by omega); omega))⟩
                     | (simp at h; exact ⟨by omega, by omega, hdr.1, hdr.2, hbr.1, hbr.2, ha3, har.2, by omega, by omega, by omega, by omega, (by intro hh; first | exact n2 hh | omega | (have := n2 (by omega); omega)), (by intro hh; first | exact n1 hh | omega | (have := n1 (by omega); omega))⟩))
  · have hf : fieldsS k = ⟨#[]⟩ := by unfold fieldsS; rw [if_neg hk]
    have hfi := fun w => fields_is k w
    rw [hf] at hfi
    have HX := hid (Blk.new w (insC ⟨k, op, d, a, b, n, to⟩).toArray 57)
    dsimp only [insC] at *
    go_enter Try.func69, Try.ntmps69
    go_wp2_with (first | still_step | (with_reducible first | refine wpStill_nil ?_ | refine Flow.Both.mk ?_ ?_ | exact True.intro) | (with_reducible refine Flow.same_mk rfl rfl rfl ?_; go_simp; done) | (with_reducible exact Flow.same_un rfl rfl rfl) | (with_reducible refine Flow.region_flow (id := 3) [0, 1, 3, 7, 15, 7, 7, 71, 255, 511, 1023, 2047, 4095, 8191, 4095, 4095, 36863, 4095, 262143, 524287, 1048575, 2097151, 4194303, 8388607, 4194303, 4194303, 37748735, 134217727, 268435455, 536870911] 201654656 281555482 [(0, none), (1, none), (2, none), (3, none), (4, none), (5, none), (6, none), (7, some [3, 4]), (8, some []), (9, none), (10, none), (11, none), (12, none), (13, none), (14, none), (15, none), (17, none), (16, some [12, 13]), (18, some []), (19, none), (20, none), (21, none), (22, none), (23, none), (24, none), (25, none), (26, some [22, 23]), (27, some []), (28, none), (29, none)] mixed ?hB ?_; (case hB => decide +kernel); simp only [Flow.textOf, Flow.q1, Flow.q2, Flow.q3, Flow.q4, Flow.q5, Flow.q6, Flow.q7, Flow.q8, Flow.q9, Flow.wpFl, Flow.SameAll]) | (refine Flow.region_still mixed ?hB ?_; (case hB => decide +kernel)))
    go_at_call 86
    refine (hfi _).mono ?_
    rintro e w1 ⟨rfl, hfq⟩
    have HWo := hid ((show Fr (fun _ => False) w _ by (with_reducible repeat' (first | exact Fr.refl _ _ | apply Fr.alloc | apply Fr.drew | apply Fr.drewN | refine Fr.setCell ?_ ?_ _))).trans hfq (fun _ _ h => h))
    have HXo := hid (HX.out.fr hfq (fun h => h))
    clear hfq hfi HX
    have c0_x := Blk.cell HXo.out 0
    have f0_x := Blk.free HXo.out 0
    have c1_x := Blk.cell HXo.out 1
    have f1_x := Blk.free HXo.out 1
    have c2_x := Blk.cell HXo.out 2
    have f2_x := Blk.free HXo.out 2
    have c3_x := Blk.cell HXo.out 3
    have f3_x := Blk.free HXo.out 3
    have c4_x := Blk.cell HXo.out 4
    have f4_x := Blk.free HXo.out 4
    have c5_x := Blk.cell HXo.out 5
    have f5_x := Blk.free HXo.out 5
    have c6_x := Blk.cell HXo.out 6
    have f6_x := Blk.free HXo.out 6
    have l_x := Blk.lt HXo.out
    go_wp2_with (first | still_step | (with_reducible first | refine wpStill_nil ?_ | refine Flow.Both.mk ?_ ?_ | exact True.intro) | (with_reducible refine Flow.same_mk rfl rfl rfl ?_; go_simp; done) | (with_reducible exact Flow.same_un rfl rfl rfl) | (with_reducible refine Flow.region_flow (id := 3) [0, 1, 3, 7, 15, 7, 7, 71, 255, 511, 1023, 2047, 4095, 8191, 4095, 4095, 36863, 4095, 262143, 524287, 1048575, 2097151, 4194303, 8388607, 4194303, 4194303, 37748735, 134217727, 268435455, 536870911] 201654656 281555482 [(0, none), (1, none), (2, none), (3, none), (4, none), (5, none), (6, none), (7, some [3, 4]), (8, some []), (9, none), (10, none), (11, none), (12, none), (13, none), (14, none), (15, none), (17, none), (16, some [12, 13]), (18, some []), (19, none), (20, none), (21, none), (22, none), (23, none), (24, none), (25, none), (26, some [22, 23]), (27, some []), (28, none), (29, none)] mixed ?hB ?_; (case hB => decide +kernel); simp only [Flow.textOf, Flow.q1, Flow.q2, Flow.q3, Flow.q4, Flow.q5, Flow.q6, Flow.q7, Flow.q8, Flow.q9, Flow.wpFl, Flow.SameAll]) | (refine Flow.region_still mixed ?hB ?_; (case hB => decide +kernel)))
    all_goals
      go_ret
      exact ⟨false, rfl, fun h => absurd h (by decide), by first | exact HWo.out | exact HWo.out.drew⟩
end Go.Proofs.Ytbfeopakmjcapaa.Tso
