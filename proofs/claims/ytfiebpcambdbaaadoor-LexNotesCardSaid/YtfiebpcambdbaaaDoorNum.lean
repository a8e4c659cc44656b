/-
  What calc.Digits and calc.Number answer, for seats in which calc's other functions do not stand.
-/
import Derived.Test.YtfiebpcambdbaaaDoorBase
import Derived.Test.YtfiebpcambdbaaaDoorLaid02
import Derived.Test.YtfiebpcambdbaaaDoorShelf
import Derived.Lib.AppendIntMem
import Derived.Lib.AtoiErrMem
import Derived.Lib.SlicesS
set_option linter.unusedVariables false
set_option linter.unusedSimpArgs false
set_option maxHeartbeats 4000000
set_option maxRecDepth 8000
namespace Go.Proofs.YtfiebpcambdbaaaDoor
open Go.RowKit
attribute [local irreducible] wpStill wpList Calls CallsIn

theorem Fr.of_below0 {w w1 : World} (h : Below w.heap.size w w1) : Fr (fun _ => False) w w1 := (Fr.of_below h).mono (fun k hk h => by omega)

def bytesV (l : List UInt8) : ByteArray := ⟨l.toArray⟩
def numL (s : List UInt8) : Int × Bool := match Lib.parseUintB 64 s with | .ok u => if u ≤ 9223372036854775807 ∧ Lib.itoa u = s then ((u : Int), true) else (0, false) | _ => (0, false)

theorem digits_is (n : Int) (h0 : -9223372036854775808 ≤ n) (h1 : n ≤ 9223372036854775807) (w : World) (ht : Tabs w) :
    Calls Tryd.prog 46 #[.int .i64 n] w fun e w' => e = .returned (.string (bytesV (Lib.itoa n))) ∧ Fr (fun _ => False) w w' := by
  have hp := Tryd.strconv_FormatInt_10 n h0 h1 w ht.p10
  have HP := hid hp
  clear hp ht
  unfold bytesV
  generalize Lib.itoa n = z at *
  go_enter Tryd.func46, Tryd.ntmps46
  go_wp2_with (first | (go_at_call 54; refine HP.out.mono ?_; rintro e w1 ⟨rfl, k, os, hw⟩; have HF := hid (show Fr (fun _ => False) w w1 from (by rw [hw]; exact Fr.of_below0 (Lib.below_grow _ w (Nat.le_refl _) k os))); clear hw) | still_step | (with_reducible first | refine wpStill_nil ?_ | refine Flow.Both.mk ?_ ?_ | exact True.intro) | (with_reducible refine Flow.same_mk rfl rfl rfl ?_; go_simp; done) | (with_reducible exact Flow.same_un rfl rfl rfl) | (refine Flow.region_still mixed ?hB ?_; (case hB => decide +kernel)))
  go_ret
  exact ⟨rfl, HF.out⟩

set_option maxHeartbeats 1000000 in
theorem number_is (s : ByteArray) (hs : s.size ≤ 1000000) (w : World) (ht : Tabs w) :
    Calls Tryd.prog 31 #[.string s] w fun e w' => e = .returned (.tuple #[.int .i64 (numL s.data.toList).1, .bool (numL s.data.toList).2]) ∧ Fr (fun _ => False) w w' := by
  obtain ⟨r, hr⟩ : ∃ r, r = numL s.data.toList := ⟨_, rfl⟩
  rw [← hr]
  have HT := hid ht
  clear ht
  cases hp : Lib.parseUintB 64 s.data.toList with
  | ok u =>
    have hc := fun w => Tryd.strconv_ParseUint_10_at64_ok s (by omega) u hp w
    have HC := hid hc
    clear hc
    have hu : u ≤ 18446744073709551615 := Lib.parseUintB_le hp
    by_cases hbig : u ≤ 9223372036854775807
    · have hd := fun w ht => digits_is (u : Int) (by omega) (by omega) w ht
      have HD := hid hd
      by_cases he : Lib.itoa u = s.data.toList
      · obtain rfl : r = ((u : Int), true) := by rw [hr]; unfold numL; rw [hp]; simp [hbig, he]
        have heq : bytesV (Lib.itoa u) = s := by rw [he]; unfold bytesV; simp
        have HE := hid heq
        clear hr he heq hd hp
        go_enter Tryd.func31, Tryd.ntmps31
        go_wp2_with (first | (go_at_call 45; refine (HC.out w).mono ?_; rintro e w1 ⟨rfl, hw⟩; have HF := hid (show Fr (fun _ => False) w w1 from (by rcases hw with rfl | rfl; exact Fr.refl _ _; exact Fr.of_below0 (Lib.bytesWorld_below _ _ _))); clear hw) | (go_at_call 46; refine (HD.out w1 (HT.out.fr HF.out)).mono ?_; rintro e w2 ⟨rfl, hf⟩; rw [HE.out]; have HF2 := hid hf; clear hf) | still_step | (with_reducible first | refine wpStill_nil ?_ | refine Flow.Both.mk ?_ ?_ | exact True.intro) | (with_reducible refine Flow.same_mk rfl rfl rfl ?_; go_simp; done) | (with_reducible exact Flow.same_un rfl rfl rfl) | (refine Flow.region_still mixed ?hB ?_; (case hB => decide +kernel)))
        exact bodyPost_ret (v := .tuple #[.int .i64 u, .bool true]) (by simp [results, Tryd.results31, go_sem]) rfl ⟨rfl, HF.out.trans HF2.out (fun _ _ h => h)⟩
      · obtain rfl : r = (0, false) := by rw [hr]; unfold numL; rw [hp]; simp [he]
        obtain ⟨d, hdd⟩ : ∃ d, d = bytesV (Lib.itoa u) := ⟨_, rfl⟩
        have hne : d ≠ s := by
          intro e
          rw [hdd] at e
          apply he
          rw [← e]; simp [bytesV]
        have hnb := (Lib.bytes_beq_false_iff d s).2 hne
        rw [← hdd] at hd
        have HD := hid hd
        clear hr he hne hdd hp hd
        go_enter Tryd.func31, Tryd.ntmps31
        go_wp2_with (first | (go_at_call 45; refine (HC.out w).mono ?_; rintro e w1 ⟨rfl, hw⟩; have HF := hid (show Fr (fun _ => False) w w1 from (by rcases hw with rfl | rfl; exact Fr.refl _ _; exact Fr.of_below0 (Lib.bytesWorld_below _ _ _))); clear hw) | (go_at_call 46; refine (HD.out w1 (HT.out.fr HF.out)).mono ?_; rintro e w2 ⟨rfl, hf⟩; have HF2 := hid hf; clear hf) | still_step | (with_reducible first | refine wpStill_nil ?_ | refine Flow.Both.mk ?_ ?_ | exact True.intro) | (with_reducible refine Flow.same_mk rfl rfl rfl ?_; go_simp; done) | (with_reducible exact Flow.same_un rfl rfl rfl) | (refine Flow.region_still mixed ?hB ?_; (case hB => decide +kernel)))
        exact bodyPost_ret (v := .tuple #[.int .i64 0, .bool false]) (by simp [results, Tryd.results31, go_sem]) rfl ⟨rfl, HF.out.trans HF2.out (fun _ _ h => h)⟩
    · obtain rfl : r = (0, false) := by rw [hr]; unfold numL; rw [hp]; simp [hbig]
      clear hr hp
      have hb2 : (9223372036854775807 : Int) < u := by omega
      go_enter Tryd.func31, Tryd.ntmps31
      go_wp2_with (first | (go_at_call 45; refine (HC.out w).mono ?_; rintro e w1 ⟨rfl, hw⟩; have HF := hid (show Fr (fun _ => False) w w1 from (by rcases hw with rfl | rfl; exact Fr.refl _ _; exact Fr.of_below0 (Lib.bytesWorld_below _ _ _))); clear hw) | still_step | (with_reducible first | refine wpStill_nil ?_ | refine Flow.Both.mk ?_ ?_ | exact True.intro) | (with_reducible refine Flow.same_mk rfl rfl rfl ?_; go_simp; done) | (with_reducible exact Flow.same_un rfl rfl rfl) | (refine Flow.region_still mixed ?hB ?_; (case hB => decide +kernel)))
      exact bodyPost_ret (v := .tuple #[.int .i64 0, .bool false]) (by simp [results, Tryd.results31, go_sem]) rfl ⟨rfl, HF.out⟩
  | range =>
    obtain rfl : r = (0, false) := by rw [hr]; unfold numL; rw [hp]
    obtain ⟨tp, p, hv⟩ := HT.out.rng
    have hc := Tryd.strconv_ParseUint_10_at64_range_var s (by omega) hp tp p w hv
    have HC := hid hc
    clear hr hp hv hc
    go_enter Tryd.func31, Tryd.ntmps31
    go_wp2_with (first | (go_at_call 45; refine HC.out.mono ?_; rintro e w1 ⟨N, rfl, -, -, hw⟩; have HF := hid (Fr.of_below0 hw); clear hw) | still_step | (with_reducible first | refine wpStill_nil ?_ | refine Flow.Both.mk ?_ ?_ | exact True.intro) | (with_reducible refine Flow.same_mk rfl rfl rfl ?_; go_simp; done) | (with_reducible exact Flow.same_un rfl rfl rfl) | (refine Flow.region_still mixed ?hB ?_; (case hB => decide +kernel)))
    exact bodyPost_ret (v := .tuple #[.int .i64 0, .bool false]) (by simp [results, Tryd.results31, go_sem]) rfl ⟨rfl, HF.out⟩
  | _ =>
    obtain rfl : r = (0, false) := by rw [hr]; unfold numL; rw [hp]
    obtain ⟨tp, p, hv⟩ := HT.out.syn
    have hc := Tryd.strconv_ParseUint_10_at64_syntax_var s (by omega) hp tp p w hv
    have HC := hid hc
    clear hr hp hv hc
    go_enter Tryd.func31, Tryd.ntmps31
    go_wp2_with (first | (go_at_call 45; refine HC.out.mono ?_; rintro e w1 ⟨N, rfl, -, -, hw⟩; have HF := hid (Fr.of_below0 hw); clear hw) | still_step | (with_reducible first | refine wpStill_nil ?_ | refine Flow.Both.mk ?_ ?_ | exact True.intro) | (with_reducible refine Flow.same_mk rfl rfl rfl ?_; go_simp; done) | (with_reducible exact Flow.same_un rfl rfl rfl) | (refine Flow.region_still mixed ?hB ?_; (case hB => decide +kernel)))
    exact bodyPost_ret (v := .tuple #[.int .i64 0, .bool false]) (by simp [results, Tryd.results31, go_sem]) rfl ⟨rfl, HF.out⟩
end Go.Proofs.YtfiebpcambdbaaaDoor

