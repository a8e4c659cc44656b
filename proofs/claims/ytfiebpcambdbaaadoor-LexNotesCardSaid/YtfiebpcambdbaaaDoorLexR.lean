/-
  What strings.ContainsRune answers of lex's signs: an ASCII rune, and any other.
-/
import Derived.Test.YtfiebpcambdbaaaDoorLexS
import Derived.Laws.Runes
import Derived.WalkMore
set_option linter.unusedVariables false
set_option linter.unusedSimpArgs false
set_option maxHeartbeats 4000000
set_option maxRecDepth 8000
namespace Go.Proofs.YtfiebpcambdbaaaDoor
open Go.RowKit Go.Proofs.YtfiebpcambdbaaaDoor.Lex
attribute [local irreducible] wpStill wpList Calls CallsIn

theorem idx_not (l : B) (c : UInt8) (h : ∀ b ∈ l, b ≠ c) : Lib.indexByte l c = -1 := by
  induction l with
  | nil => rfl
  | cons a l ih =>
    have ha : (a == c) = false := by simpa using h a (by simp)
    have := ih (fun b hb => h b (by simp [hb]))
    unfold Lib.indexByte
    rw [this, ha]
    rfl
theorem idx_in (l : B) (c : UInt8) : (decide (0 ≤ Lib.indexByte l c)) = l.contains c := by
  induction l with
  | nil => rfl
  | cons a l ih =>
    unfold Lib.indexByte
    by_cases ha : a = c
    · subst ha; simp
    · have hb : (a == c) = false := by simpa using ha
      have hb2 : (c == a) = false := by simpa using Ne.symm ha
      rw [hb, List.contains_cons, hb2, Bool.false_or, ← ih]
      have hge := Lib.indexByte_ge l c
      by_cases h1 : Lib.indexByte l c = -1
      · simp [h1]
      · have h2 : (Lib.indexByte l c == -1) = false := by simpa using h1
        simp only [h2, Bool.false_eq_true, if_false, decide_eq_decide]
        omega
def signsV : ByteArray := ⟨#[43, 45, 42, 47, 37, 38, 124, 94, 60, 62, 33, 61, 40, 41, 91, 93, 123, 125, 59, 44]⟩
theorem signs_low : ∀ b ∈ signsB, b.toNat < 128 := by decide
theorem signs_idx (k : Nat) (c : UInt8) (h : 128 ≤ c.toNat) : Lib.indexByte (signsB.drop k) c = -1 :=
  idx_not _ _ (fun b hb e => by have := signs_low b (List.mem_of_mem_drop hb); rw [e] at this; omega)

set_option maxRecDepth 100000 in
theorem idxr_high (c : Int) (h0 : 128 ≤ c) (h1 : c ≤ 2147483647) (w : World) : Calls Tryd.prog 57 #[.string signsV, .int .i32 c] w fun e w' => e = .returned (.int .i64 (-1)) ∧ Fr (fun _ => False) w w' := by
  by_cases h2 : c = 65533
  · subst h2
    obtain ⟨s, hse⟩ : ∃ s : ByteArray, s = signsV := ⟨_, rfl⟩
    have hsz : s.size = 20 := by rw [hse]; rfl
    have hlow : ∀ j (h : j < s.size), (s[j]'h).toNat < 128 := fun j h => by
      subst hse
      exact signs_low _ (Array.getElem_mem_toList (xs := signsV.data) h)
    rw [← hse]
    clear hse
    have HLOW := hid hlow
    clear hlow
    go_enter Tryd.func57, Tryd.ntmps57
    go_wp2_with (first | still_step | (with_reducible first | refine wpStill_nil ?_ | refine Flow.Both.mk ?_ ?_ | exact True.intro) | (with_reducible refine Flow.same_mk rfl rfl rfl ?_; go_simp; done) | (with_reducible exact Flow.same_un rfl rfl rfl) | (with_reducible refine Flow.region_flow (id := 7) [0, 0, 2, 7, 0, 0, 48, 127, 255] 128 76 [(0, none), (1, none), (2, none), (3, none), (4, none), (5, none), (6, none), (7, some []), (8, none)] mixed ?hB ?_; (case hB => decide +kernel); simp only [Flow.textOf, Flow.q1, Flow.q2, Flow.q3, Flow.q4, Flow.q5, Flow.q6, Flow.q7, Flow.q8, Flow.q9, Flow.wpFl, Flow.SameAll]) | (refine Flow.region_still mixed ?hB ?_; (case hB => decide +kernel)))
    go_loopw [] (fun wr => ∃ pos : Nat, pos ≤ s.size ∧ wr.heap[w.heap.size]? = some (.stringIter s pos) ∧ Below w.heap.size w wr) (fun wr => s.size - wr.iterPos w.heap.size)
    case atStart => exact ⟨0, Nat.zero_le _, World.iter_heap w s 0, (Below.refl _ w).alloc (Nat.le_refl _) _⟩
    case round =>
      obtain ⟨pos, hle, hit, hbw⟩ := hrel
      by_cases hp : pos < s.size
      · have hlt := HLOW.out pos hp
        have hnx : ∀ ty, (Instr.next (.pointer (some ⟨w.heap.size, 0, none⟩)) true ty).run Tryd.prog wr = _ := fun ty => Lib.run_next_ascii_at wr w.heap.size s pos ty hit hp hlt
        have hit2 := Lib.iterAt_heap wr w.heap.size s pos (pos + 1) hit
        have hbw2 := Lib.below_iterAt hbw (k := w.heap.size) (Nat.le_refl _) s (pos + 1)
        generalize (s[pos]'hp).toNat = c at *
        have hne : ((c : Int) == 65533) = false := by simp; omega
        go_wp2_with (first | still_step | (with_reducible first | refine wpStill_nil ?_ | refine Flow.Both.mk ?_ ?_ | exact True.intro) | (with_reducible refine Flow.same_mk rfl rfl rfl ?_; go_simp; done) | (with_reducible exact Flow.same_un rfl rfl rfl) | (with_reducible refine Flow.region_flow (id := 7) [0, 0, 2, 7, 0, 0, 48, 127, 255] 128 76 [(0, none), (1, none), (2, none), (3, none), (4, none), (5, none), (6, none), (7, some []), (8, none)] mixed ?hB ?_; (case hB => decide +kernel); simp only [Flow.textOf, Flow.q1, Flow.q2, Flow.q3, Flow.q4, Flow.q5, Flow.q6, Flow.q7, Flow.q8, Flow.q9, Flow.wpFl, Flow.SameAll]) | (refine Flow.region_still mixed ?hB ?_; (case hB => decide +kernel)))
        go_roundw
        case rel => exact ⟨pos + 1, by omega, hit2, hbw2⟩
        case measure =>
          simp only [World.iterPos, hit2, hit]
          omega
      · have hnx : ∀ ty, (Instr.next (.pointer (some ⟨w.heap.size, 0, none⟩)) true ty).run Tryd.prog wr = _ := fun ty => Lib.run_next_end_at wr w.heap.size s pos ty hit hp
        go_wp2_with (first | still_step | (with_reducible first | refine wpStill_nil ?_ | refine Flow.Both.mk ?_ ?_ | exact True.intro) | (with_reducible refine Flow.same_mk rfl rfl rfl ?_; go_simp; done) | (with_reducible exact Flow.same_un rfl rfl rfl) | (with_reducible refine Flow.region_flow (id := 7) [0, 0, 2, 7, 0, 0, 48, 127, 255] 128 76 [(0, none), (1, none), (2, none), (3, none), (4, none), (5, none), (6, none), (7, some []), (8, none)] mixed ?hB ?_; (case hB => decide +kernel); simp only [Flow.textOf, Flow.q1, Flow.q2, Flow.q3, Flow.q4, Flow.q5, Flow.q6, Flow.q7, Flow.q8, Flow.q9, Flow.wpFl, Flow.SameAll]) | (refine Flow.region_still mixed ?hB ?_; (case hB => decide +kernel)))
        go_ret
        exact ⟨rfl, Fr.of_below0 hbw⟩
  · have hv := Tryd.utf8_ValidRune c
    have hne : (c == 65533) = false := by simpa using h2
    cases hvr : Lib.validRune c with
    | false =>
      rw [hvr] at hv
      have HV := hid hv
      clear hv hvr h2
      go_enter Tryd.func57, Tryd.ntmps57
      go_wp2_with (first | (go_at_call 72; refine (HV.out _).mono ?_; rintro e w1 ⟨rfl, rfl⟩) | still_step | (with_reducible first | refine wpStill_nil ?_ | refine Flow.Both.mk ?_ ?_ | exact True.intro) | (with_reducible refine Flow.same_mk rfl rfl rfl ?_; go_simp; done) | (with_reducible exact Flow.same_un rfl rfl rfl) | (with_reducible refine Flow.region_flow (id := 7) [0, 0, 2, 7, 0, 0, 48, 127, 255] 128 76 [(0, none), (1, none), (2, none), (3, none), (4, none), (5, none), (6, none), (7, some []), (8, none)] mixed ?hB ?_; (case hB => decide +kernel); simp only [Flow.textOf, Flow.q1, Flow.q2, Flow.q3, Flow.q4, Flow.q5, Flow.q6, Flow.q7, Flow.q8, Flow.q9, Flow.wpFl, Flow.SameAll]) | (refine Flow.region_still mixed ?hB ?_; (case hB => decide +kernel)))
      go_ret
      exact ⟨rfl, Fr.refl _ _⟩
    | true =>
      rw [hvr] at hv
      have hval : Utf8.valid c = true := by rw [validRune_eq]; exact hvr
      obtain ⟨e1, e2, e3⟩ := encode_facts c hval h0
      have HV := hid hv
      generalize hrs : Utf8.encode c = rs at *
      have HRS := hid hrs
      clear hv hvr h2 hval hrs
      have hm : rs.size = 2 ∨ rs.size = 3 ∨ rs.size = 4 := by omega
      clear e1 e2
      rcases hm with hm | hm | hm
      all_goals
        have hb := e3 (by omega)
        simp only [hm] at hb
        obtain ⟨s, hse⟩ : ∃ s : ByteArray, s = signsV := ⟨_, rfl⟩
        have hsz : s.size = 20 := by rw [hse]; rfl
        have q1 : ∀ h, ((s[1]'h).toNat : Int) = 45 := fun h => by subst hse; rfl
        have q2 : ∀ h, ((s[2]'h).toNat : Int) = 42 := fun h => by subst hse; rfl
        have q3 : ∀ h, ((s[3]'h).toNat : Int) = 47 := fun h => by subst hse; rfl
        have hix : ∀ (k : Nat) (c : UInt8), 128 ≤ c.toNat → ∀ w, Calls Tryd.prog 71 #[.string (s.extract k 20), .int .u8 (c.toNat : Int)] w fun e w' => e = .returned (.int .i64 (-1)) ∧ w' = w := fun k c hc w => by
          have h := Tryd.strings_IndexByte (s.extract k 20) (c.toNat : Int) w
          have e1 : ((c.toNat : Int).toNat).toUInt8 = c := by rw [Int.toNat_natCast]; exact UInt8.ofNat_toNat
          have e2 : (s.extract k 20).data.toList = signsB.drop k := by
            rw [hse, show signsV = ⟨signsB.toArray⟩ from rfl, ByteArray.extract_mk]
            simp only [List.toList_toArray]
            rw [List.take_of_length_le (by rw [List.length_drop]; exact Nat.le_refl _)]
          rw [e1, e2, signs_idx k c hc] at h
          exact h
        rw [← hse]
        obtain ⟨z, hz⟩ : ∃ z : UInt8, z = rs[rs.size - 1]'(by omega) := ⟨_, rfl⟩
        have HZ := hid hz
        simp only [hm] at hz
        have hzn : 128 ≤ z.toNat := by rw [hz]; exact hb
        obtain ⟨zn, hznn⟩ : ∃ zn : Int, zn = (z.toNat : Int) := ⟨_, rfl⟩
        have qz : ∀ h : rs.size - 1 < rs.size, ((rs[rs.size - 1]'h).toNat : Int) = zn := fun h => by rw [hznn, HZ.out]
        simp only [hm] at qz
        have hix2 := fun k => hix k z hzn
        rw [← hznn] at hix2
        have HIX := hid hix2
        have wr2 : IntKind.i64.wrap 2 = 2 := rfl
        have wr3 : IntKind.i64.wrap 3 = 3 := rfl
        have wr4 : IntKind.i64.wrap 4 = 4 := rfl
        have n1 : ((45 : Int) != zn) = true := by simp; omega
        have n2 : ((42 : Int) != zn) = true := by simp; omega
        have n3 : ((47 : Int) != zn) = true := by simp; omega
        clear hix hix2 hb hse hz hzn hznn e3 HZ
        go_enter Tryd.func57, Tryd.ntmps57
        go_wp2_with (first | (go_at_call 72; refine (HV.out _).mono ?_; rintro e w1 ⟨rfl, rfl⟩) | still_step | (with_reducible first | refine wpStill_nil ?_ | refine Flow.Both.mk ?_ ?_ | exact True.intro) | (with_reducible refine Flow.same_mk rfl rfl rfl ?_; go_simp; done) | (with_reducible exact Flow.same_un rfl rfl rfl) | (with_reducible refine Flow.region_flow (id := 7) [0, 0, 2, 7, 0, 0, 48, 127, 255] 128 76 [(0, none), (1, none), (2, none), (3, none), (4, none), (5, none), (6, none), (7, some []), (8, none)] mixed ?hB ?_; (case hB => decide +kernel); simp only [Flow.textOf, Flow.q1, Flow.q2, Flow.q3, Flow.q4, Flow.q5, Flow.q6, Flow.q7, Flow.q8, Flow.q9, Flow.wpFl, Flow.SameAll]) | (refine Flow.region_still mixed ?hB ?_; (case hB => decide +kernel)))
        go_step3
        go_wp2_with (first | (rw [HRS.out]) | still_step | (with_reducible first | refine wpStill_nil ?_ | refine Flow.Both.mk ?_ ?_ | exact True.intro) | (with_reducible refine Flow.same_mk rfl rfl rfl ?_; go_simp; done) | (with_reducible exact Flow.same_un rfl rfl rfl) | (with_reducible refine Flow.region_flow (id := 7) [0, 0, 2, 7, 0, 0, 48, 127, 255] 128 76 [(0, none), (1, none), (2, none), (3, none), (4, none), (5, none), (6, none), (7, some []), (8, none)] mixed ?hB ?_; (case hB => decide +kernel); simp only [Flow.textOf, Flow.q1, Flow.q2, Flow.q3, Flow.q4, Flow.q5, Flow.q6, Flow.q7, Flow.q8, Flow.q9, Flow.wpFl, Flow.SameAll]) | (refine Flow.region_still mixed ?hB ?_; (case hB => decide +kernel)))
        go_loop [9, 10] (fun v9 v10 => v9 = .int .i64 ((rs.size : Int) - 1) ∧ v10 = .int .i64 0) (fun _ _ => 0)
        case atStart => exact ⟨by rw [hm]; rfl, rfl⟩
        case round =>
          obtain ⟨hv9, rfl⟩ := hrel
          rw [hm] at hv9
          simp at hv9
          subst hv9
          go_wp2_with (first | still_step | (with_reducible first | refine wpStill_nil ?_ | refine Flow.Both.mk ?_ ?_ | exact True.intro) | (with_reducible refine Flow.same_mk rfl rfl rfl ?_; go_simp; done) | (with_reducible exact Flow.same_un rfl rfl rfl) | (with_reducible refine Flow.region_flow (id := 7) [0, 0, 2, 7, 0, 0, 48, 127, 255] 128 76 [(0, none), (1, none), (2, none), (3, none), (4, none), (5, none), (6, none), (7, some []), (8, none)] mixed ?hB ?_; (case hB => decide +kernel); simp only [Flow.textOf, Flow.q1, Flow.q2, Flow.q3, Flow.q4, Flow.q5, Flow.q6, Flow.q7, Flow.q8, Flow.q9, Flow.wpFl, Flow.SameAll]) | (refine Flow.region_still mixed ?hB ?_; (case hB => decide +kernel)))
          go_step3
          go_wp2_with (first | (go_at_call 71; refine (HIX.out _ _).mono ?_; rintro e w1 ⟨rfl, rfl⟩) | still_step | (with_reducible first | refine wpStill_nil ?_ | refine Flow.Both.mk ?_ ?_ | exact True.intro) | (with_reducible refine Flow.same_mk rfl rfl rfl ?_; go_simp; done) | (with_reducible exact Flow.same_un rfl rfl rfl) | (with_reducible refine Flow.region_flow (id := 7) [0, 0, 2, 7, 0, 0, 48, 127, 255] 128 76 [(0, none), (1, none), (2, none), (3, none), (4, none), (5, none), (6, none), (7, some []), (8, none)] mixed ?hB ?_; (case hB => decide +kernel); simp only [Flow.textOf, Flow.q1, Flow.q2, Flow.q3, Flow.q4, Flow.q5, Flow.q6, Flow.q7, Flow.q8, Flow.q9, Flow.wpFl, Flow.SameAll]) | (refine Flow.region_still mixed ?hB ?_; (case hB => decide +kernel)))
          rw [Exit.noGoto_ret]
          go_wp2_with (first | still_step | (with_reducible first | refine wpStill_nil ?_ | refine Flow.Both.mk ?_ ?_ | exact True.intro) | (with_reducible refine Flow.same_mk rfl rfl rfl ?_; go_simp; done) | (with_reducible exact Flow.same_un rfl rfl rfl) | (with_reducible refine Flow.region_flow (id := 7) [0, 0, 2, 7, 0, 0, 48, 127, 255] 128 76 [(0, none), (1, none), (2, none), (3, none), (4, none), (5, none), (6, none), (7, some []), (8, none)] mixed ?hB ?_; (case hB => decide +kernel); simp only [Flow.textOf, Flow.q1, Flow.q2, Flow.q3, Flow.q4, Flow.q5, Flow.q6, Flow.q7, Flow.q8, Flow.q9, Flow.wpFl, Flow.SameAll]) | (refine Flow.region_still mixed ?hB ?_; (case hB => decide +kernel)))
          rw [Exit.noGoto_ret]
          (try go_wp2_with (first | still_step | (with_reducible first | refine wpStill_nil ?_ | refine Flow.Both.mk ?_ ?_ | exact True.intro) | (with_reducible refine Flow.same_mk rfl rfl rfl ?_; go_simp; done) | (with_reducible exact Flow.same_un rfl rfl rfl) | (with_reducible refine Flow.region_flow (id := 7) [0, 0, 2, 7, 0, 0, 48, 127, 255] 128 76 [(0, none), (1, none), (2, none), (3, none), (4, none), (5, none), (6, none), (7, some []), (8, none)] mixed ?hB ?_; (case hB => decide +kernel); simp only [Flow.textOf, Flow.q1, Flow.q2, Flow.q3, Flow.q4, Flow.q5, Flow.q6, Flow.q7, Flow.q8, Flow.q9, Flow.wpFl, Flow.SameAll]) | (refine Flow.region_still mixed ?hB ?_; (case hB => decide +kernel))))
          go_ret
          exact ⟨rfl, by (with_reducible repeat' (first | exact Fr.refl _ _ | apply Fr.alloc | apply Fr.drew | apply Fr.drewN | refine Fr.setCell ?_ ?_ _))⟩
theorem cont_high (c : Int) (h0 : 128 ≤ c) (h1 : c ≤ 2147483647) (w : World) : Calls Tryd.prog 48 #[.string signsV, .int .i32 c] w fun e w' => e = .returned (.bool false) ∧ Fr (fun _ => False) w w' := by
  have HI := hid (idxr_high c h0 h1)
  go_enter Tryd.func48, Tryd.ntmps48
  go_wp2_with (first | (go_at_call 57; refine (HI.out _).mono ?_; rintro e w1 ⟨rfl, hf⟩) | still_step | (with_reducible first | refine wpStill_nil ?_ | refine Flow.Both.mk ?_ ?_ | exact True.intro) | (with_reducible refine Flow.same_mk rfl rfl rfl ?_; go_simp; done) | (with_reducible exact Flow.same_un rfl rfl rfl) | (refine Flow.region_still mixed ?hB ?_; (case hB => decide +kernel)))
  go_ret
  exact ⟨rfl, hf⟩
theorem cont_low (c : UInt8) (h : c.toNat < 128) (w : World) : Calls Tryd.prog 48 #[.string signsV, .int .i32 c.toNat] w fun e w' => e = .returned (.bool (signsB.contains c)) ∧ w' = w := by
  have hi := Tryd.strings_ContainsRune_ascii signsV c.toNat w (by omega) (by omega)
  refine hi.mono ?_
  rintro e w' ⟨rfl, hw⟩
  refine ⟨?_, hw⟩
  have e : ((c.toNat : Int).toNat).toUInt8 = c := by rw [Int.toNat_natCast]; exact UInt8.ofNat_toNat
  rw [e, idx_in]
  rfl
end Go.Proofs.YtfiebpcambdbaaaDoor
