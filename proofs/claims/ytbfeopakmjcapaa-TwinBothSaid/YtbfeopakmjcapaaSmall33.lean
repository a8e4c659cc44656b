/-
  small of chapter 33's laws: what it tells of a pair.
-/
import Derived.Test.YtbfeopakmjcapaaShape2
set_option linter.unusedVariables false
set_option linter.unusedSimpArgs false
set_option maxHeartbeats 4000000
set_option maxRecDepth 8000
namespace Go.Proofs.Ytbfeopakmjcapaa.Tso
open Go.RowKit Go.Proofs.Ytbfeopakmjcapaa.Seq
attribute [local irreducible] wpStill wpList Calls CallsIn

theorem small33_is (Rc Ra : Nat → Prop) (ao aa a1 a2 a3 : Option Addr) (co ac c1 c2 c3 n1 n2 n3 : Nat) (qs : List ((Option Addr × Nat) × List Ins)) (al : List (Int × Int × Bool)) (words locks room window : Int) (w : World) (hc : Codes w Rc ao qs) (ha : Vw w 3 Ra aa al.length (areaC al))
    (hal : al.length ≤ 9223372036854775807) (hql : qs.length ≤ 9223372036854775807) (hi : ∀ q ∈ qs, q.2.length ≤ 9223372036854775807) :
    Calls Try.prog 27 #[.agg #[.slice ao qs.length co, .slice aa al.length ac, .int .i64 words, .int .i64 locks, .slice a1 n1 c1, .slice a2 n2 c2, .int .i64 room, .int .i64 window, .slice a3 n3 c3]] w fun e w' =>
      Tells ((goodImg qs words locks ∧ areasIn words al) ∧ words ≤ 3000 ∧ (∀ q ∈ qs, q.2.length ≤ 200) ∧ n1 ≤ 3000 ∧ n2 ≤ 3000 ∧ n3 ≤ 150) w e w' := by
  have HC := hid hc
  have hsh := fun (w : World) (h1 : Codes w Rc ao qs) (h2 : Vw w 3 Ra aa al.length (areaC al)) => shape2_is Rc Ra ao aa co ac qs al words locks w h1 h2 hal hi
  have HSH := hid hsh
  have HA := hid ha
  obtain ⟨L, hL⟩ : ∃ L, L = qs.length := ⟨_, rfl⟩
  have HL := hid hL
  rw [← hL] at HSH hql
  rw [← hL]
  clear hc hi hL hsh ha hal
  generalize al.length = LA at *
  have HX := hid (Blk.new w #[.slice ao L co, .slice aa LA ac, .int .i64 words, .int .i64 locks, .slice a1 n1 c1, .slice a2 n2 c2, .int .i64 room, .int .i64 window, .slice a3 n3 c3] 69)
  go_enter Try.func27, Try.ntmps27
  go_wp2_with (first | still_step | (with_reducible first | refine wpStill_nil ?_ | refine Flow.Both.mk ?_ ?_ | exact True.intro) | (with_reducible refine Flow.same_mk rfl rfl rfl ?_; go_simp; done) | (with_reducible exact Flow.same_un rfl rfl rfl) | (refine Flow.region_still mixed ?hB ?_; (case hB => decide +kernel)))
  go_loopw [3] (fun i wr => ∃ k : Nat, k ≤ L ∧ i = .int .i64 k ∧ (∀ q ∈ qs.take k, q.2.length ≤ 200) ∧ Blk wr w.heap.size #[.slice ao L co, .slice aa LA ac, .int .i64 words, .int .i64 locks, .slice a1 n1 c1, .slice a2 n2 c2, .int .i64 room, .int .i64 window, .slice a3 n3 c3] 69 ∧ Fr (fun _ => False) w wr) (fun i _ => L - (intOf i).toNat)
  case atStart => exact ⟨0, Nat.zero_le _, rfl, fun x hx => by simp at hx, HX.out, by (with_reducible repeat' (first | exact Fr.refl _ _ | apply Fr.alloc | apply Fr.drew | apply Fr.drewN | refine Fr.setCell ?_ ?_ _))⟩
  case round =>
    obtain ⟨k, hk, rfl, hall, hx, hf⟩ := hrel
    have HF := hid hf
    have HALL := hid hall
    have c0_i := Blk.cell hx 0
    have f0_i := Blk.free hx 0
    have c1_i := Blk.cell hx 1
    have f1_i := Blk.free hx 1
    have c2_i := Blk.cell hx 2
    have f2_i := Blk.free hx 2
    have c3_i := Blk.cell hx 3
    have f3_i := Blk.free hx 3
    have c4_i := Blk.cell hx 4
    have f4_i := Blk.free hx 4
    have c5_i := Blk.cell hx 5
    have f5_i := Blk.free hx 5
    have c6_i := Blk.cell hx 6
    have f6_i := Blk.free hx 6
    have c7_i := Blk.cell hx 7
    have f7_i := Blk.free hx 7
    have c8_i := Blk.cell hx 8
    have f8_i := Blk.free hx 8
    have l_i := Blk.lt hx
    have HX1 := hid hx
    clear hf hall hx HX
    by_cases hlt : k < L
    · have hkl : k < qs.length := by have := HL.out; omega
      obtain ⟨r, off, rfl, hcell⟩ := (HC.out.fr HF.out (fun _ _ h => h)).cell hkl
      have htk : qs.take (k + 1) = qs.take k ++ [qs[k]] := by rw [List.take_succ_eq_append_getElem hkl]
      have hrl := World.block_lt_of_cell? _ _ hcell
      dsimp only at hrl
      generalize qs[k] = q at *
      obtain ⟨⟨sp, sc⟩, code⟩ := q
      dsimp only at hcell
      have HTK := hid htk
      obtain ⟨CL, hCL⟩ : ∃ CL, CL = code.length := ⟨_, rfl⟩
      rw [← hCL] at hcell
      have HCL := hid hCL
      clear htk hCL
      by_cases h6 : 200 < CL
      · go_wp2_with (first | still_step | (with_reducible first | refine wpStill_nil ?_ | refine Flow.Both.mk ?_ ?_ | exact True.intro) | (with_reducible refine Flow.same_mk rfl rfl rfl ?_; go_simp; done) | (with_reducible exact Flow.same_un rfl rfl rfl) | (refine Flow.region_still mixed ?hB ?_; (case hB => decide +kernel)))
        go_ret
        exact Tells.no rfl HF.out
      · have hall2 : ∀ q ∈ qs.take (k + 1), q.2.length ≤ 200 := by
          intro q hq
          rw [HTK.out] at hq
          rcases List.mem_append.1 hq with hq | hq
          · exact HALL.out q hq
          · obtain rfl := List.mem_singleton.1 hq
            have := HCL.out
            dsimp only
            omega
        have HA2 := hid hall2
        clear hall2
        go_wp2_with (first | still_step | (with_reducible first | refine wpStill_nil ?_ | refine Flow.Both.mk ?_ ?_ | exact True.intro) | (with_reducible refine Flow.same_mk rfl rfl rfl ?_; go_simp; done) | (with_reducible exact Flow.same_un rfl rfl rfl) | (refine Flow.region_still mixed ?hB ?_; (case hB => decide +kernel)))
        go_roundw
        case rel => exact ⟨k + 1, by omega, by go_num, HA2.out, HX1.out, HF.out⟩
        case measure => simp [intOf]; omega
    · obtain rfl : k = L := by omega
      have hall := HALL.out
      rw [List.take_of_length_le (by have := HL.out; omega)] at hall
      have HA2 := hid hall
      clear hall
      by_cases h1 : 3000 < n1
      · go_wp2_with (first | still_step | (with_reducible first | refine wpStill_nil ?_ | refine Flow.Both.mk ?_ ?_ | exact True.intro) | (with_reducible refine Flow.same_mk rfl rfl rfl ?_; go_simp; done) | (with_reducible exact Flow.same_un rfl rfl rfl) | (refine Flow.region_still mixed ?hB ?_; (case hB => decide +kernel)))
        go_ret
        exact Tells.no rfl HF.out
      by_cases h2 : 3000 < n2
      · go_wp2_with (first | still_step | (with_reducible first | refine wpStill_nil ?_ | refine Flow.Both.mk ?_ ?_ | exact True.intro) | (with_reducible refine Flow.same_mk rfl rfl rfl ?_; go_simp; done) | (with_reducible exact Flow.same_un rfl rfl rfl) | (refine Flow.region_still mixed ?hB ?_; (case hB => decide +kernel)))
        go_ret
        exact Tells.no rfl HF.out
      by_cases h3 : 150 < n3
      · go_wp2_with (first | still_step | (with_reducible first | refine wpStill_nil ?_ | refine Flow.Both.mk ?_ ?_ | exact True.intro) | (with_reducible refine Flow.same_mk rfl rfl rfl ?_; go_simp; done) | (with_reducible exact Flow.same_un rfl rfl rfl) | (refine Flow.region_still mixed ?hB ?_; (case hB => decide +kernel)))
        go_ret
        exact Tells.no rfl HF.out
      by_cases h4 : 3000 < words
      · go_wp2_with (first | still_step | (with_reducible first | refine wpStill_nil ?_ | refine Flow.Both.mk ?_ ?_ | exact True.intro) | (with_reducible refine Flow.same_mk rfl rfl rfl ?_; go_simp; done) | (with_reducible exact Flow.same_un rfl rfl rfl) | (refine Flow.region_still mixed ?hB ?_; (case hB => decide +kernel)))
        go_ret
        exact Tells.no rfl HF.out
      · go_wp2_with (first | still_step | (with_reducible first | refine wpStill_nil ?_ | refine Flow.Both.mk ?_ ?_ | exact True.intro) | (with_reducible refine Flow.same_mk rfl rfl rfl ?_; go_simp; done) | (with_reducible exact Flow.same_un rfl rfl rfl) | (refine Flow.region_still mixed ?hB ?_; (case hB => decide +kernel)))
        go_at_call 31
        refine (HSH.out _ (HC.out.fr HF.out (fun _ _ h => h)) (HA.out.fr HF.out (fun _ _ h => h))).mono ?_
        rintro e w2 ⟨b, rfl, hb, hf2⟩
        have HB := hid hb
        have HF2 := hid (HF.out.trans hf2 (fun _ _ h => h))
        clear hb hf2
        cases b with
        | false =>
          go_wp2_with (first | still_step | (with_reducible first | refine wpStill_nil ?_ | refine Flow.Both.mk ?_ ?_ | exact True.intro) | (with_reducible refine Flow.same_mk rfl rfl rfl ?_; go_simp; done) | (with_reducible exact Flow.same_un rfl rfl rfl) | (refine Flow.region_still mixed ?hB ?_; (case hB => decide +kernel)))
          go_ret
          exact Tells.no rfl HF2.out
        | true =>
          have HW := hid (HB.out rfl)
          go_wp2_with (first | still_step | (with_reducible first | refine wpStill_nil ?_ | refine Flow.Both.mk ?_ ?_ | exact True.intro) | (with_reducible refine Flow.same_mk rfl rfl rfl ?_; go_simp; done) | (with_reducible exact Flow.same_un rfl rfl rfl) | (refine Flow.region_still mixed ?hB ?_; (case hB => decide +kernel)))
          go_ret
          exact Tells.yes rfl ⟨HW.out, by omega, HA2.out, by omega, by omega, by omega⟩ HF2.out
end Go.Proofs.Ytbfeopakmjcapaa.Tso
