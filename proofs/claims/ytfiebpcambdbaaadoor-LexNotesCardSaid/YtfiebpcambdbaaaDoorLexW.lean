/-
  What lex's small functions answer: letter, digit, run, skip; and strings.Cut at a newline.
-/
import Derived.Test.YtfiebpcambdbaaaDoorLexL
import Derived.Lib.OthersKept
import Derived.Laws.RangeAny
set_option linter.unusedVariables false
set_option linter.unusedSimpArgs false
set_option maxHeartbeats 4000000
set_option maxRecDepth 8000
namespace Go.Proofs.YtfiebpcambdbaaaDoor
open Go.RowKit Go.Proofs.YtfiebpcambdbaaaDoor.Lex
attribute [local irreducible] wpStill wpList Calls CallsIn

def letterZ (c : Int) : Bool := (decide (97 ≤ c) && decide (c ≤ 122)) || (decide (65 ≤ c) && decide (c ≤ 90)) || decide (c = 95)
def digitZ (c : Int) : Bool := decide (48 ≤ c) && decide (c ≤ 57)

theorem letter_is (c : Int) (w : World) : Calls Tryd.prog 44 #[.int .i32 c] w fun e w' => e = .returned (.bool (letterZ c)) ∧ w' = w := by
  obtain ⟨r, hr⟩ : ∃ r, r = letterZ c := ⟨_, rfl⟩
  rw [← hr]
  have h7 : (c < 65) ∨ (65 ≤ c ∧ c ≤ 90) ∨ (90 < c ∧ c < 95) ∨ c = 95 ∨ c = 96 ∨ (97 ≤ c ∧ c ≤ 122) ∨ 122 < c := by omega
  rcases h7 with h | h | h | h | h | h | h
  all_goals
    first
    | (have e : r = false := (by rw [hr]; simp [letterZ]; omega); subst e)
    | (have e : r = true := (by rw [hr]; simp [letterZ]; omega); subst e)
  all_goals
    clear hr
    (try subst h)
    go_enter Tryd.func44, Tryd.ntmps44
    go_wp2_with (first | still_step | (with_reducible first | refine wpStill_nil ?_ | refine Flow.Both.mk ?_ ?_ | exact True.intro) | (with_reducible refine Flow.same_mk rfl rfl rfl ?_; go_simp; done) | (with_reducible exact Flow.same_un rfl rfl rfl) | (refine Flow.region_still mixed ?hB ?_; (case hB => decide +kernel)))
  all_goals
    go_ret
    exact ⟨by simp; try omega, rfl⟩

theorem digit_is (c : Int) (w : World) : Calls Tryd.prog 30 #[.int .i32 c] w fun e w' => e = .returned (.bool (digitZ c)) ∧ w' = w := by
  obtain ⟨r, hr⟩ : ∃ r, r = digitZ c := ⟨_, rfl⟩
  rw [← hr]
  have h7 : (c < 48) ∨ (48 ≤ c ∧ c ≤ 57) ∨ 57 < c := by omega
  rcases h7 with h | h | h
  all_goals
    first
    | (have e : r = false := (by rw [hr]; simp [digitZ]; omega); subst e)
    | (have e : r = true := (by rw [hr]; simp [digitZ]; omega); subst e)
  all_goals
    clear hr
    go_enter Tryd.func30, Tryd.ntmps30
    go_wp2_with (first | still_step | (with_reducible first | refine wpStill_nil ?_ | refine Flow.Both.mk ?_ ?_ | exact True.intro) | (with_reducible refine Flow.same_mk rfl rfl rfl ?_; go_simp; done) | (with_reducible exact Flow.same_un rfl rfl rfl) | (refine Flow.region_still mixed ?hB ?_; (case hB => decide +kernel)))
  all_goals
    go_ret
    exact ⟨by simp; try omega, rfl⟩

theorem letterZ_of (c : UInt8) : letterZ (c.toNat : Int) = letterB c := by
  unfold letterZ letterB
  congr 1
  · congr 1 <;> congr 1 <;> (simp only [decide_eq_decide]; omega)
  · simp only [decide_eq_decide]; omega
theorem digitZ_of (c : UInt8) : digitZ (c.toNat : Int) = digitB c := by
  unfold digitZ digitB
  congr 1 <;> (simp only [decide_eq_decide]; omega)
theorem high_not {c : Int} (h : 128 ≤ c) : letterZ c = false ∧ digitZ c = false := by
  unfold letterZ digitZ
  simp
  omega
theorem alnum_high {c : UInt8} (h : 128 ≤ c.toNat) : alnum c = false := by
  unfold alnum letterB digitB
  simp
  omega

/-- How many letters and digits a text begins with. -/
def runN (l : B) : Nat := (l.takeWhile alnum).length
theorem runN_le (l : B) : runN l ≤ l.length := (takeWhile_prefix alnum l).length_le
theorem runN_take (l : B) : l.take (runN l) = l.takeWhile alnum := by
  obtain ⟨r, hr⟩ := takeWhile_prefix alnum l
  unfold runN
  conv => lhs; arg 2; rw [← hr]
  simp
theorem runN_at : ∀ (l : B) (k : Nat), (∀ j (h : j < k) (h2 : j < l.length), alnum l[j] = true) → (h3 : k < l.length) → alnum l[k] = false → runN l = k
  | [], k, _, h3, _ => by simp at h3
  | a :: l, 0, _, _, h => by
    have h' : alnum a = false := h
    simp [runN, h']
  | a :: l, k + 1, h1, h3, h => by
    have ha : alnum a = true := h1 0 (by omega) (by simp)
    have := runN_at l k (fun j h4 h5 => h1 (j + 1) (by omega) (by simp; omega)) (by simpa using h3) h
    unfold runN at this ⊢
    rw [List.takeWhile_cons, if_pos ha, List.length_cons, this]
theorem runN_all : ∀ (l : B), (∀ j (h2 : j < l.length), alnum l[j] = true) → runN l = l.length
  | [], _ => rfl
  | a :: l, h1 => by
    have ha : alnum a = true := h1 0 (by simp)
    have := runN_all l (fun j h5 => h1 (j + 1) (by simp; omega))
    unfold runN at this ⊢
    rw [List.takeWhile_cons, if_pos ha, List.length_cons, this, List.length_cons]

theorem run_is (l : B) (w : World) (hs : l.length ≤ 1000000) :
    Calls Tryd.prog 29 #[.string ⟨l.toArray⟩] w fun e w' => e = .returned (.int .i64 (runN l)) ∧ Fr (fun _ => False) w w' := by
  obtain ⟨s, hse⟩ : ∃ s : ByteArray, s = ⟨l.toArray⟩ := ⟨_, rfl⟩
  have hsz : s.size = l.length := by rw [hse]; exact List.size_toArray ..
  have hget : ∀ j (h : j < s.size), s[j]'h = l[j]'(by omega) := fun j h => by subst hse; rfl
  rw [← hse]
  have HG := hid hget
  clear hse hget
  go_enter Tryd.func29, Tryd.ntmps29
  go_wp2_with (first | still_step | (with_reducible first | refine wpStill_nil ?_ | refine Flow.Both.mk ?_ ?_ | exact True.intro) | (with_reducible refine Flow.same_mk rfl rfl rfl ?_; go_simp; done) | (with_reducible exact Flow.same_un rfl rfl rfl) | (refine Flow.region_still mixed ?hB ?_; (case hB => decide +kernel)))
  go_loopw [] (fun wr => ∃ pos : Nat, pos ≤ s.size ∧ wr.heap[w.heap.size]? = some (.stringIter s pos) ∧ Below w.heap.size w wr ∧ ∀ j (h : j < pos) (h2 : j < l.length), alnum l[j] = true) (fun wr => s.size - wr.iterPos w.heap.size)
  case atStart =>
    refine ⟨0, Nat.zero_le _, ?_, (Below.refl _ w).alloc (Nat.le_refl _) _, fun j h => by omega⟩
    exact World.iter_heap w s 0
  case round =>
    obtain ⟨pos, hle, hit, hbw, hall⟩ := hrel
    have HA := hid hall
    clear hall
    by_cases hp : pos < s.size
    · have hnx : ∀ ty, (Instr.next (.pointer (some ⟨w.heap.size, 0, none⟩)) true ty).run Tryd.prog wr = _ := fun ty => Lib.run_next_any_at wr w.heap.size s pos ty hit hp
      have hit2 := Lib.iterAt_heap wr w.heap.size s pos (pos + (Utf8.decode s pos).2) hit
      have hbw2 := Lib.below_iterAt hbw (k := w.heap.size) (Nat.le_refl _) s (pos + (Utf8.decode s pos).2)
      by_cases hh : (s[pos]'hp).toNat < 128
      · have hd := decode_ascii s pos hp hh
        rw [hd] at hnx hit2 hbw2
        dsimp only at hnx hit2 hbw2
        generalize hcc : s[pos]'hp = c at *
        have hlc : l[pos]'(by omega) = c := by rw [← HG.out pos hp]; exact hcc
        have hz1 := letterZ_of c
        have hz2 := digitZ_of c
        have HL := hid (letter_is (c.toNat : Int))
        have HD := hid (digit_is (c.toNat : Int))
        rw [hz1] at HL
        rw [hz2] at HD
        have HN := hid hnx
        have HLC := hid hlc
        have HCC := hid hcc
        clear hz1 hz2 hd hnx hlc hcc
        cases hL : letterB c with
        | true =>
          rw [hL] at HL
          have HNX := HN.out
          go_wp2_with (first | (go_at_call 44; refine (HL.out _).mono ?_; rintro e w1 ⟨rfl, rfl⟩) | still_step | (with_reducible first | refine wpStill_nil ?_ | refine Flow.Both.mk ?_ ?_ | exact True.intro) | (with_reducible refine Flow.same_mk rfl rfl rfl ?_; go_simp; done) | (with_reducible exact Flow.same_un rfl rfl rfl) | (refine Flow.region_still mixed ?hB ?_; (case hB => decide +kernel)))
          go_roundw
          case rel =>
            refine ⟨pos + 1, by omega, hit2, hbw2, fun j h h2 => ?_⟩
            by_cases hj : j = pos
            · subst hj; rw [HLC.out]; simp [alnum, hL]
            · exact HA.out j (by omega) h2
          case measure =>
            simp only [World.iterPos, hit2, hit]
            omega
        | false =>
          rw [hL] at HL
          cases hD : digitB c with
          | true =>
            rw [hD] at HD
            have HNX := HN.out
            go_wp2_with (first | (go_at_call 44; refine (HL.out _).mono ?_; rintro e w1 ⟨rfl, rfl⟩) | (go_at_call 30; refine (HD.out _).mono ?_; rintro e w1 ⟨rfl, rfl⟩) | still_step | (with_reducible first | refine wpStill_nil ?_ | refine Flow.Both.mk ?_ ?_ | exact True.intro) | (with_reducible refine Flow.same_mk rfl rfl rfl ?_; go_simp; done) | (with_reducible exact Flow.same_un rfl rfl rfl) | (refine Flow.region_still mixed ?hB ?_; (case hB => decide +kernel)))
            go_roundw
            case rel =>
              refine ⟨pos + 1, by omega, hit2, hbw2, fun j h h2 => ?_⟩
              by_cases hj : j = pos
              · subst hj; rw [HLC.out]; simp [alnum, hD]
              · exact HA.out j (by omega) h2
            case measure =>
              simp only [World.iterPos, hit2, hit]
              omega
          | false =>
            rw [hD] at HD
            have HNX := HN.out
            go_wp2_with (first | (go_at_call 44; refine (HL.out _).mono ?_; rintro e w1 ⟨rfl, rfl⟩) | (go_at_call 30; refine (HD.out _).mono ?_; rintro e w1 ⟨rfl, rfl⟩) | still_step | (with_reducible first | refine wpStill_nil ?_ | refine Flow.Both.mk ?_ ?_ | exact True.intro) | (with_reducible refine Flow.same_mk rfl rfl rfl ?_; go_simp; done) | (with_reducible exact Flow.same_un rfl rfl rfl) | (refine Flow.region_still mixed ?hB ?_; (case hB => decide +kernel)))
            go_ret
            refine ⟨?_, Fr.of_below0 hbw2⟩
            rw [runN_at l pos HA.out (by omega) (by rw [HLC.out]; simp [alnum, hL, hD])]
            rfl
      · have hd := decode_high s pos hp (by omega)
        have hd2 := decode_le s pos
        have hlc : alnum (l[pos]'(by omega)) = false := by rw [← HG.out pos hp]; exact alnum_high (by omega)
        generalize Utf8.decode s pos = d at *
        obtain ⟨d1, d2⟩ := d
        dsimp only at hd hd2 hnx hit2 hbw2
        have hz := high_not (c := (d1 : Int)) (by omega)
        have HL := hid (letter_is (d1 : Int))
        have HD := hid (digit_is (d1 : Int))
        rw [hz.1] at HL
        rw [hz.2] at HD
        have HLC := hid hlc
        clear hz hlc hh
        go_wp2_with (first | (go_at_call 44; refine (HL.out _).mono ?_; rintro e w1 ⟨rfl, rfl⟩) | (go_at_call 30; refine (HD.out _).mono ?_; rintro e w1 ⟨rfl, rfl⟩) | still_step | (with_reducible first | refine wpStill_nil ?_ | refine Flow.Both.mk ?_ ?_ | exact True.intro) | (with_reducible refine Flow.same_mk rfl rfl rfl ?_; go_simp; done) | (with_reducible exact Flow.same_un rfl rfl rfl) | (refine Flow.region_still mixed ?hB ?_; (case hB => decide +kernel)))
        go_ret
        refine ⟨?_, Fr.of_below0 hbw2⟩
        rw [runN_at l pos HA.out (by omega) HLC.out]
        rfl
    · have hnx : ∀ ty, (Instr.next (.pointer (some ⟨w.heap.size, 0, none⟩)) true ty).run Tryd.prog wr = _ := fun ty => Lib.run_next_end_at wr w.heap.size s pos ty hit hp
      go_wp2_with (first | still_step | (with_reducible first | refine wpStill_nil ?_ | refine Flow.Both.mk ?_ ?_ | exact True.intro) | (with_reducible refine Flow.same_mk rfl rfl rfl ?_; go_simp; done) | (with_reducible exact Flow.same_un rfl rfl rfl) | (refine Flow.region_still mixed ?hB ?_; (case hB => decide +kernel)))
      go_ret
      refine ⟨?_, Fr.of_below0 hbw⟩
      rw [runN_all l (fun j h => HA.out j (by omega) h), ← hsz]
      rfl

theorem mk_drop (l : B) (n : Nat) (h : n ≤ l.length) : (⟨l.toArray⟩ : ByteArray).extract n (⟨l.toArray⟩ : ByteArray).size = ⟨(l.drop n).toArray⟩ := by
  have hs : (⟨l.toArray⟩ : ByteArray).size = l.length := List.size_toArray ..
  rw [ByteArray.extract_mk, hs, List.take_of_length_le (by simp)]
theorem mk_take (l : B) (n : Nat) : (⟨l.toArray⟩ : ByteArray).extract 0 n = ⟨(l.take n).toArray⟩ := by
  rw [ByteArray.extract_mk]
  simp
theorem mk_size (l : B) : (⟨l.toArray⟩ : ByteArray).size = l.length := List.size_toArray ..
theorem idx_nl : ∀ l : B, (Lib.indexByte l 10 = -1 ∧ afterNl l = []) ∨ (∃ k : Nat, Lib.indexByte l 10 = k ∧ k < l.length ∧ afterNl l = l.drop (k + 1))
  | [] => .inl ⟨rfl, rfl⟩
  | a :: l => by
    by_cases ha : a = 10
    · subst ha
      exact .inr ⟨0, by simp [Lib.indexByte], by simp, by simp [afterNl]⟩
    · have hb : (a == 10) = false := by simpa using ha
      have hb2 : (a != 10) = true := by simpa using ha
      have ea : afterNl (a :: l) = afterNl l := by unfold afterNl; rw [List.dropWhile_cons, if_pos hb2]
      rcases idx_nl l with ⟨h1, h2⟩ | ⟨k, h1, h2, h3⟩
      · exact .inl ⟨by simp [Lib.indexByte, hb, h1], by rw [ea, h2]⟩
      · refine .inr ⟨k + 1, ?_, by simp; omega, by rw [ea, h3]; rfl⟩
        have : ((k : Int) == -1) = false := by simp
        simp [Lib.indexByte, hb, h1, this]

set_option maxHeartbeats 1000000 in
theorem scut_is (l : B) (w : World) (hs : l.length ≤ 1000000) : Calls Tryd.prog 43 #[.string ⟨l.toArray⟩, .string ⟨#[10]⟩] w fun e w' => (∃ v b, e = .returned (.tuple #[v, .string ⟨(afterNl l).toArray⟩, .bool b])) ∧ Fr (fun _ => False) w w' := by
  have hi := Tryd.stringslite_Index_one ⟨l.toArray⟩ 10
  rw [show (ByteArray.data ⟨l.toArray⟩).toList = l from by simp] at hi
  rcases idx_nl l with ⟨h1, h2⟩ | ⟨k, h1, h2, h3⟩
  · rw [h1] at hi
    rw [h2]
    have HI := hid hi
    clear hi h1 h2
    go_enter Tryd.func43, Tryd.ntmps43
    go_wp2_with (first | (go_at_call 49; refine (HI.out _).mono ?_; rintro e w1 ⟨rfl, rfl⟩) | still_step | (with_reducible first | refine wpStill_nil ?_ | refine Flow.Both.mk ?_ ?_ | exact True.intro) | (with_reducible refine Flow.same_mk rfl rfl rfl ?_; go_simp; done) | (with_reducible exact Flow.same_un rfl rfl rfl) | (refine Flow.region_still mixed ?hB ?_; (case hB => decide +kernel)))
    go_ret3
    exact ⟨⟨_, _, rfl⟩, Fr.refl _ _⟩
  · rw [h1] at hi
    rw [h3]
    have HI := hid hi
    have hsz := mk_size l
    have hsl := mk_drop l (k + 1) (by omega)
    obtain ⟨s, hse⟩ : ∃ s : ByteArray, s = ⟨l.toArray⟩ := ⟨_, rfl⟩
    rw [← hse] at hsz hsl HI ⊢
    have HSL := hid hsl
    clear hi h1 h3 hse hsl
    have c1 : (k : Int) ≤ s.size := by omega
    have c2 : (k : Int) + 1 ≤ s.size := by omega
    have c3 : (0 : Int) ≤ (k : Int) + 1 := by omega
    have c4 : (0 : Int) ≤ (k : Int) := by omega
    have hwr : IntKind.i64.wrap ((k : Int) + 1) = (k : Int) + 1 := wrap_small _ c3 (by omega)
    clear hsz
    go_enter Tryd.func43, Tryd.ntmps43
    go_wp2_with (first | (go_at_call 49; refine (HI.out _).mono ?_; rintro e w1 ⟨rfl, rfl⟩) | still_step | (with_reducible first | refine wpStill_nil ?_ | refine Flow.Both.mk ?_ ?_ | exact True.intro) | (with_reducible refine Flow.same_mk rfl rfl rfl ?_; go_simp; done) | (with_reducible exact Flow.same_un rfl rfl rfl) | (refine Flow.region_still mixed ?hB ?_; (case hB => decide +kernel)))
    go_ret3
    rw [← HSL.out]
    exact ⟨⟨_, _, rfl⟩, by (with_reducible repeat' (first | exact Fr.refl _ _ | apply Fr.alloc | apply Fr.drew | apply Fr.drewN | refine Fr.setCell ?_ ?_ _))⟩

theorem cut_is (l : B) (w : World) (hs : l.length ≤ 1000000) : Calls Tryd.prog 28 #[.string ⟨l.toArray⟩, .string ⟨#[10]⟩] w fun e w' => (∃ v b, e = .returned (.tuple #[v, .string ⟨(afterNl l).toArray⟩, .bool b])) ∧ Fr (fun _ => False) w w' := by
  have HI := hid (scut_is l w hs)
  go_enter Tryd.func28, Tryd.ntmps28
  go_wp2_with (first | (go_at_call 43; refine HI.out.mono ?_; rintro e w1 ⟨⟨v, b, rfl⟩, hf⟩) | still_step | (with_reducible first | refine wpStill_nil ?_ | refine Flow.Both.mk ?_ ?_ | exact True.intro) | (with_reducible refine Flow.same_mk rfl rfl rfl ?_; go_simp; done) | (with_reducible exact Flow.same_un rfl rfl rfl) | (refine Flow.region_still mixed ?hB ?_; (case hB => decide +kernel)))
  go_ret3
  exact ⟨⟨_, _, rfl⟩, hf⟩
end Go.Proofs.YtfiebpcambdbaaaDoor
