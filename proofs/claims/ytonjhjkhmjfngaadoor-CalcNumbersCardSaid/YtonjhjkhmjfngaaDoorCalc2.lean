/-
  What the functions of package calc beside Eval answer: Sign, Op, Rank, Truth, Digits, Number.
-/
import Derived.Test.YtonjhjkhmjfngaaDoorCalc
import Derived.Test.YtonjhjkhmjfngaaDoorLaid01
import Derived.Test.YtonjhjkhmjfngaaDoorShelf
import Derived.Lib.AppendIntMem
import Derived.Lib.AtoiErrMem
namespace Go.Proofs.YtonjhjkhmjfngaaDoor
open Go.RowKit
attribute [local irreducible] wpStill wpList Calls CallsIn

theorem Fr.of_below0 {w w1 : World} (h : Below w.heap.size w w1) : Fr (fun _ => False) w w1 := (Fr.of_below h).mono (fun k hk h => by omega)

def bytesV (l : List UInt8) : ByteArray := ⟨l.toArray⟩
def signL (op : Int) : List UInt8 := if 0 ≤ op ∧ op < 19 then signBytes.getD op.toNat [] else []
def rankL (op : Int) : Int := if 0 ≤ op ∧ op < 19 then rankInts.getD op.toNat 0 else 0
def opL (s : ByteArray) : Int := if s = bytesV [] then -1 else Lib.idxOfS (signBytes.map bytesV) s
def truthL (op : Int) : Bool := decide (10 ≤ op ∧ op ≤ 18)
def numL (s : List UInt8) : Int × Bool := match Lib.parseUintB 64 s with | .ok u => if u ≤ 9223372036854775807 ∧ Lib.itoa u = s then ((u : Int), true) else (0, false) | _ => (0, false)

theorem sign_is (op : Int) (w : World) (ht : Tabs w) : Calls Tryd.prog 13 #[.int .i64 op] w fun e w' => e = .returned (.string (bytesV (signL op))) ∧ w' = w := by
  by_cases h : 0 ≤ op ∧ op < 19
  · obtain ⟨k, rfl⟩ : ∃ k : Nat, op = k := ⟨op.toNat, by omega⟩
    have hk : k < 19 := by omega
    have hs := ht.signs k hk
    have e : signL (k : Int) = signBytes.getD k [] := by unfold signL; rw [if_pos h]; rfl
    rw [e]
    have hb := ht.big
    generalize signBytes.getD k [] = z at *
    clear ht e
    obtain ⟨h1, h2⟩ := h
    go_enter Tryd.func13, Tryd.ntmps13
    go_wp2_with (first | fail | still_step | (with_reducible refine wpStill_nil ?_) | (with_reducible refine Flow.Both.mk ?_ ?_) | (with_reducible exact True.intro) | (with_reducible refine Flow.same_mk rfl rfl rfl ?_; go_simp; done) | (with_reducible exact Flow.same_un rfl rfl rfl) | (refine Flow.region_still mixed ?hB ?_; (case hB => decide +kernel)))
    go_ret
    exact ⟨rfl, rfl⟩
  · have e : signL op = [] := by unfold signL; rw [if_neg h]
    rw [e]
    clear ht e
    have h2 : op < 0 ∨ (¬ op < 0 ∧ 19 ≤ op) := by omega
    clear h
    rcases h2 with h | ⟨h, h2⟩
    all_goals
      go_enter Tryd.func13, Tryd.ntmps13
      go_wp2_with (first | fail | still_step | (with_reducible refine wpStill_nil ?_) | (with_reducible refine Flow.Both.mk ?_ ?_) | (with_reducible exact True.intro) | (with_reducible refine Flow.same_mk rfl rfl rfl ?_; go_simp; done) | (with_reducible exact Flow.same_un rfl rfl rfl) | (refine Flow.region_still mixed ?hB ?_; (case hB => decide +kernel)))
      go_ret
      exact ⟨rfl, rfl⟩

theorem rank_is (op : Int) (w : World) (ht : Tabs w) : Calls Tryd.prog 17 #[.int .i64 op] w fun e w' => e = .returned (.int .i64 (rankL op)) ∧ w' = w := by
  by_cases h : 0 ≤ op ∧ op < 19
  · obtain ⟨k, rfl⟩ : ∃ k : Nat, op = k := ⟨op.toNat, by omega⟩
    have hk : k < 19 := by omega
    have hs := ht.ranks k hk
    have e : rankL (k : Int) = rankInts.getD k 0 := by unfold rankL; rw [if_pos h]; rfl
    rw [e]
    have hb := ht.big
    generalize rankInts.getD k 0 = z at *
    clear ht e
    obtain ⟨h1, h2⟩ := h
    go_enter Tryd.func17, Tryd.ntmps17
    go_wp2_with (first | fail | still_step | (with_reducible refine wpStill_nil ?_) | (with_reducible refine Flow.Both.mk ?_ ?_) | (with_reducible exact True.intro) | (with_reducible refine Flow.same_mk rfl rfl rfl ?_; go_simp; done) | (with_reducible exact Flow.same_un rfl rfl rfl) | (refine Flow.region_still mixed ?hB ?_; (case hB => decide +kernel)))
    go_ret
    exact ⟨rfl, rfl⟩
  · have e : rankL op = 0 := by unfold rankL; rw [if_neg h]
    rw [e]
    clear ht e
    have h2 : op < 0 ∨ (¬ op < 0 ∧ 19 ≤ op) := by omega
    clear h
    rcases h2 with h | ⟨h, h2⟩
    all_goals
      go_enter Tryd.func17, Tryd.ntmps17
      go_wp2_with (first | fail | still_step | (with_reducible refine wpStill_nil ?_) | (with_reducible refine Flow.Both.mk ?_ ?_) | (with_reducible exact True.intro) | (with_reducible refine Flow.same_mk rfl rfl rfl ?_; go_simp; done) | (with_reducible exact Flow.same_un rfl rfl rfl) | (refine Flow.region_still mixed ?hB ?_; (case hB => decide +kernel)))
      go_ret
      exact ⟨rfl, rfl⟩

theorem truth_is (op : Int) (w : World) : Calls Tryd.prog 19 #[.int .i64 op] w fun e w' => e = .returned (.bool (truthL op)) ∧ w' = w := by
  obtain ⟨r, hr⟩ : ∃ r, r = truthL op := ⟨_, rfl⟩
  rw [← hr]
  have h3 : (10 ≤ op ∧ op ≤ 18) ∨ op < 10 ∨ (10 ≤ op ∧ 18 < op) := by omega
  rcases h3 with ⟨h1, h2⟩ | h1 | ⟨h1, h2⟩
  · obtain rfl : r = true := by rw [hr]; unfold truthL; simp [h1, h2]
    clear hr
    go_enter Tryd.func19, Tryd.ntmps19
    go_wp2_with (first | fail | still_step | (with_reducible refine wpStill_nil ?_) | (with_reducible refine Flow.Both.mk ?_ ?_) | (with_reducible exact True.intro) | (with_reducible refine Flow.same_mk rfl rfl rfl ?_; go_simp; done) | (with_reducible exact Flow.same_un rfl rfl rfl) | (refine Flow.region_still mixed ?hB ?_; (case hB => decide +kernel)))
    go_ret
    exact ⟨by simp; try omega, rfl⟩
  · obtain rfl : r = false := by rw [hr]; unfold truthL; simp; omega
    clear hr
    go_enter Tryd.func19, Tryd.ntmps19
    go_wp2_with (first | fail | still_step | (with_reducible refine wpStill_nil ?_) | (with_reducible refine Flow.Both.mk ?_ ?_) | (with_reducible exact True.intro) | (with_reducible refine Flow.same_mk rfl rfl rfl ?_; go_simp; done) | (with_reducible exact Flow.same_un rfl rfl rfl) | (refine Flow.region_still mixed ?hB ?_; (case hB => decide +kernel)))
    go_ret
    exact ⟨by simp; try omega, rfl⟩
  · obtain rfl : r = false := by rw [hr]; unfold truthL; simp; omega
    clear hr
    go_enter Tryd.func19, Tryd.ntmps19
    go_wp2_with (first | fail | still_step | (with_reducible refine wpStill_nil ?_) | (with_reducible refine Flow.Both.mk ?_ ?_) | (with_reducible exact True.intro) | (with_reducible refine Flow.same_mk rfl rfl rfl ?_; go_simp; done) | (with_reducible exact Flow.same_un rfl rfl rfl) | (refine Flow.region_still mixed ?hB ?_; (case hB => decide +kernel)))
    go_ret
    exact ⟨by simp; try omega, rfl⟩

theorem digits_is (n : Int) (h0 : -9223372036854775808 ≤ n) (h1 : n ≤ 9223372036854775807) (w : World) (ht : Tabs w) :
    Calls Tryd.prog 22 #[.int .i64 n] w fun e w' => e = .returned (.string (bytesV (Lib.itoa n))) ∧ Fr (fun _ => False) w w' := by
  have hp := Tryd.strconv_FormatInt_10 n h0 h1 w ht.p10
  have HP := hid hp
  clear hp ht
  unfold bytesV
  generalize Lib.itoa n = z at *
  go_enter Tryd.func22, Tryd.ntmps22
  go_wp2_with (first | (go_at_call 50; refine HP.out.mono ?_; rintro e w1 ⟨rfl, k, os, hw⟩; have HF := hid (show Fr (fun _ => False) w w1 from (by rw [hw]; exact Fr.of_below0 (Lib.below_grow _ w (Nat.le_refl _) k os))); clear hw) | still_step | (with_reducible refine wpStill_nil ?_) | (with_reducible refine Flow.Both.mk ?_ ?_) | (with_reducible exact True.intro) | (with_reducible refine Flow.same_mk rfl rfl rfl ?_; go_simp; done) | (with_reducible exact Flow.same_un rfl rfl rfl) | (refine Flow.region_still mixed ?hB ?_; (case hB => decide +kernel)))
  go_ret
  exact ⟨rfl, HF.out⟩

theorem op_is (s : ByteArray) (w : World) (ht : Tabs w) : Calls Tryd.prog 15 #[.string s] w fun e w' => e = .returned (.int .i64 (opL s)) ∧ w' = w := by
  by_cases h : s = bytesV []
  · subst h
    have e : opL (bytesV []) = -1 := by unfold opL; rw [if_pos rfl]
    rw [e]
    clear ht e
    unfold bytesV
    go_enter Tryd.func15, Tryd.ntmps15
    go_wp2_with (first | fail | still_step | (with_reducible refine wpStill_nil ?_) | (with_reducible refine Flow.Both.mk ?_ ?_) | (with_reducible exact True.intro) | (with_reducible refine Flow.same_mk rfl rfl rfl ?_; go_simp; done) | (with_reducible exact Flow.same_un rfl rfl rfl) | (refine Flow.region_still mixed ?hB ?_; (case hB => decide +kernel)))
    go_ret
    exact ⟨rfl, rfl⟩
  · have e : opL s = Lib.idxOfS (signBytes.map bytesV) s := by unfold opL; rw [if_neg h]
    rw [e]
    have hi := Tryd.slices_Index_string 0 0 19 19 (signBytes.map bytesV) s w (by decide) (by decide) (fun j hj => by
      have hj2 : j < 19 := hj
      rw [Nat.zero_add, ht.signs j hj2]
      have : j < signBytes.length := hj2
      simp [List.getD, this, bytesV])
    rw [List.take_of_length_le (by decide)] at hi
    have HI := hid hi
    have hb := ht.big
    clear hi ht e
    generalize Lib.idxOfS (signBytes.map bytesV) s = z at *
    have hne : s.toList.isEmpty = false := by
      rw [ByteArray.toList_eq]
      obtain ⟨⟨l⟩⟩ := s
      cases l with
      | nil => exact absurd rfl h
      | cons c l => rfl
    go_enter Tryd.func15, Tryd.ntmps15
    go_wp2_with (first | (go_at_call 48; refine HI.out.mono ?_; rintro e w1 ⟨rfl, rfl⟩) | still_step | (with_reducible refine wpStill_nil ?_) | (with_reducible refine Flow.Both.mk ?_ ?_) | (with_reducible exact True.intro) | (with_reducible refine Flow.same_mk rfl rfl rfl ?_; go_simp; done) | (with_reducible exact Flow.same_un rfl rfl rfl) | (refine Flow.region_still mixed ?hB ?_; (case hB => decide +kernel)))
    go_ret
    exact ⟨rfl, rfl⟩

set_option maxHeartbeats 1000000 in
theorem number_is (s : ByteArray) (hs : s.size ≤ 1000000) (w : World) (ht : Tabs w) :
    Calls Tryd.prog 20 #[.string s] w fun e w' => e = .returned (.tuple #[.int .i64 (numL s.data.toList).1, .bool (numL s.data.toList).2]) ∧ Fr (fun _ => False) w w' := by
  obtain ⟨r, hr⟩ : ∃ r, r = numL s.data.toList := ⟨_, rfl⟩
  rw [← hr]
  have HT := hid ht
  clear ht
  cases hp : Lib.parseUintB 64 s.data.toList with
  | ok u =>
    have hc := fun w => Tryd.strconv_ParseUint_10_at64_ok s (by omega) u hp w
    have HC := hid hc
    clear hc
    have hu : u ≤ 18446744073709551615 := Lib.parseUintB_le hp
    by_cases hbig : u ≤ 9223372036854775807
    · have hd := fun w ht => digits_is (u : Int) (by omega) (by omega) w ht
      have HD := hid hd
      by_cases he : Lib.itoa u = s.data.toList
      · obtain rfl : r = ((u : Int), true) := by rw [hr]; unfold numL; rw [hp]; simp [hbig, he]
        have heq : bytesV (Lib.itoa u) = s := by rw [he]; unfold bytesV; simp
        have HE := hid heq
        clear hr he heq hd hp
        go_enter Tryd.func20, Tryd.ntmps20
        go_wp2_with (first | (go_at_call 49; refine (HC.out w).mono ?_; rintro e w1 ⟨rfl, hw⟩; have HF := hid (show Fr (fun _ => False) w w1 from (by rcases hw with rfl | rfl; exact Fr.refl _ _; exact Fr.of_below0 (Lib.bytesWorld_below _ _ _))); clear hw) | (go_at_call 22; refine (HD.out w1 (HT.out.fr HF.out)).mono ?_; rintro e w2 ⟨rfl, hf⟩; rw [HE.out]; have HF2 := hid hf; clear hf) | still_step | (with_reducible refine wpStill_nil ?_) | (with_reducible refine Flow.Both.mk ?_ ?_) | (with_reducible exact True.intro) | (with_reducible refine Flow.same_mk rfl rfl rfl ?_; go_simp; done) | (with_reducible exact Flow.same_un rfl rfl rfl) | (refine Flow.region_still mixed ?hB ?_; (case hB => decide +kernel)))
        exact bodyPost_ret (v := .tuple #[.int .i64 u, .bool true]) (by simp [results, Tryd.results20, go_sem]) rfl ⟨rfl, HF.out.trans HF2.out (fun _ _ h => h)⟩
      · obtain rfl : r = (0, false) := by rw [hr]; unfold numL; rw [hp]; simp [he]
        obtain ⟨d, hdd⟩ : ∃ d, d = bytesV (Lib.itoa u) := ⟨_, rfl⟩
        have hne : d ≠ s := by
          intro e
          rw [hdd] at e
          apply he
          rw [← e]; simp [bytesV]
        have hnb := (Lib.bytes_beq_false_iff d s).2 hne
        rw [← hdd] at hd
        have HD := hid hd
        clear hr he hne hdd hp hd
        go_enter Tryd.func20, Tryd.ntmps20
        go_wp2_with (first | (go_at_call 49; refine (HC.out w).mono ?_; rintro e w1 ⟨rfl, hw⟩; have HF := hid (show Fr (fun _ => False) w w1 from (by rcases hw with rfl | rfl; exact Fr.refl _ _; exact Fr.of_below0 (Lib.bytesWorld_below _ _ _))); clear hw) | (go_at_call 22; refine (HD.out w1 (HT.out.fr HF.out)).mono ?_; rintro e w2 ⟨rfl, hf⟩; have HF2 := hid hf; clear hf) | still_step | (with_reducible refine wpStill_nil ?_) | (with_reducible refine Flow.Both.mk ?_ ?_) | (with_reducible exact True.intro) | (with_reducible refine Flow.same_mk rfl rfl rfl ?_; go_simp; done) | (with_reducible exact Flow.same_un rfl rfl rfl) | (refine Flow.region_still mixed ?hB ?_; (case hB => decide +kernel)))
        exact bodyPost_ret (v := .tuple #[.int .i64 0, .bool false]) (by simp [results, Tryd.results20, go_sem]) rfl ⟨rfl, HF.out.trans HF2.out (fun _ _ h => h)⟩
    · obtain rfl : r = (0, false) := by rw [hr]; unfold numL; rw [hp]; simp [hbig]
      clear hr hp
      have hb2 : (9223372036854775807 : Int) < u := by omega
      go_enter Tryd.func20, Tryd.ntmps20
      go_wp2_with (first | (go_at_call 49; refine (HC.out w).mono ?_; rintro e w1 ⟨rfl, hw⟩; have HF := hid (show Fr (fun _ => False) w w1 from (by rcases hw with rfl | rfl; exact Fr.refl _ _; exact Fr.of_below0 (Lib.bytesWorld_below _ _ _))); clear hw) | still_step | (with_reducible refine wpStill_nil ?_) | (with_reducible refine Flow.Both.mk ?_ ?_) | (with_reducible exact True.intro) | (with_reducible refine Flow.same_mk rfl rfl rfl ?_; go_simp; done) | (with_reducible exact Flow.same_un rfl rfl rfl) | (refine Flow.region_still mixed ?hB ?_; (case hB => decide +kernel)))
      exact bodyPost_ret (v := .tuple #[.int .i64 0, .bool false]) (by simp [results, Tryd.results20, go_sem]) rfl ⟨rfl, HF.out⟩
  | range =>
    obtain rfl : r = (0, false) := by rw [hr]; unfold numL; rw [hp]
    obtain ⟨tp, p, hv⟩ := HT.out.rng
    have hc := Tryd.strconv_ParseUint_10_at64_range_var s (by omega) hp tp p w hv
    have HC := hid hc
    clear hr hp hv hc
    go_enter Tryd.func20, Tryd.ntmps20
    go_wp2_with (first | (go_at_call 49; refine HC.out.mono ?_; rintro e w1 ⟨N, rfl, -, -, hw⟩; have HF := hid (Fr.of_below0 hw); clear hw) | still_step | (with_reducible refine wpStill_nil ?_) | (with_reducible refine Flow.Both.mk ?_ ?_) | (with_reducible exact True.intro) | (with_reducible refine Flow.same_mk rfl rfl rfl ?_; go_simp; done) | (with_reducible exact Flow.same_un rfl rfl rfl) | (refine Flow.region_still mixed ?hB ?_; (case hB => decide +kernel)))
    exact bodyPost_ret (v := .tuple #[.int .i64 0, .bool false]) (by simp [results, Tryd.results20, go_sem]) rfl ⟨rfl, HF.out⟩
  | _ =>
    obtain rfl : r = (0, false) := by rw [hr]; unfold numL; rw [hp]
    obtain ⟨tp, p, hv⟩ := HT.out.syn
    have hc := Tryd.strconv_ParseUint_10_at64_syntax_var s (by omega) hp tp p w hv
    have HC := hid hc
    clear hr hp hv hc
    go_enter Tryd.func20, Tryd.ntmps20
    go_wp2_with (first | (go_at_call 49; refine HC.out.mono ?_; rintro e w1 ⟨N, rfl, -, -, hw⟩; have HF := hid (Fr.of_below0 hw); clear hw) | still_step | (with_reducible refine wpStill_nil ?_) | (with_reducible refine Flow.Both.mk ?_ ?_) | (with_reducible exact True.intro) | (with_reducible refine Flow.same_mk rfl rfl rfl ?_; go_simp; done) | (with_reducible exact Flow.same_un rfl rfl rfl) | (refine Flow.region_still mixed ?hB ?_; (case hB => decide +kernel)))
    exact bodyPost_ret (v := .tuple #[.int .i64 0, .bool false]) (by simp [results, Tryd.results20, go_sem]) rfl ⟨rfl, HF.out⟩
end Go.Proofs.YtonjhjkhmjfngaaDoor
