/-
  SeqAlone: the law's walk.
-/
import Derived.Test.YtokmdjpaegaojaaSeq11
namespace Go.Proofs.Ytokmdjpaegaojaa.Seq
open Go.RowKit
attribute [local irreducible] wpStill wpList Calls CallsIn

set_option maxHeartbeats 8000000 in
set_option maxRecDepth 100000 in
theorem alone_walk (ao am at' : Option Addr) (co cm ct : Nat) (qs : List ((Option Addr × Nat) × List Ins)) (mem turns : List Int) (w : World) (hc : Codes w (fun k => k < w.heap.size) ao qs) (hm : Vw w 1 (fun k => k < w.heap.size) am mem.length (ints mem)) (hmn : am = none → mem.length = 0)
    (ht : Vw w 1 (fun k => k < w.heap.size) at' turns.length (ints turns)) (hq : qs.length ≤ 9223372036854775807) (hml : mem.length ≤ 9223372036854775807) (htl : turns.length ≤ 9223372036854775807) :
    Calls Try.prog 4 #[.slice ao qs.length co, .slice am mem.length cm, .slice at' turns.length ct] w fun e w' => e = .returned (.bool true) ∧ Below w.heap.size w w' := by
  have HC := hid hc
  have HM := hid hm
  have HT := hid ht
  clear hc hm ht
  obtain ⟨L, hL⟩ : ∃ L, L = mem.length := ⟨_, rfl⟩
  obtain ⟨Q, hQ⟩ : ∃ Q, Q = qs.length := ⟨_, rfl⟩
  obtain ⟨T, hT⟩ : ∃ T, T = turns.length := ⟨_, rfl⟩
  rw [← hL] at hml hmn
  rw [← hQ] at hq
  rw [← hT] at htl
  rw [← hL, ← hQ, ← hT]
  have HL := hid hL
  have HQ := hid hQ
  have HTL := hid hT
  clear hL hQ hT
  go_enter Try.func4, Try.ntmps4
  go_wp2_with (first | fail | still_step | (with_reducible refine wpStill_nil ?_) | (with_reducible refine Flow.Both.mk ?_ ?_) | (with_reducible exact True.intro) | (with_reducible refine Flow.same_mk rfl rfl rfl ?_; go_simp; done) | (with_reducible exact Flow.same_un rfl rfl rfl) | (refine Flow.region_still mixed ?hB ?_; (case hB => decide +kernel)))
  go_at_call 6
  refine (awake_true _).mono ?_
  rintro e w1 ⟨rfl, hf⟩
  have HF1 := hid hf
  clear hf
  go_wp2_with (first | fail | still_step | (with_reducible refine wpStill_nil ?_) | (with_reducible refine Flow.Both.mk ?_ ?_) | (with_reducible exact True.intro) | (with_reducible refine Flow.same_mk rfl rfl rfl ?_; go_simp; done) | (with_reducible exact Flow.same_un rfl rfl rfl) | (refine Flow.region_still mixed ?hB ?_; (case hB => decide +kernel)))
  go_at_call 7
  have hsm := small_is (fun k => k < w.heap.size) ao am co cm L qs w1 (HC.out.fr HF1.out (fun _ _ h => h)) (by rw [← HQ.out]; exact hq) hml
  rw [← HQ.out] at hsm
  refine hsm.mono ?_
  rintro e w2 ⟨rfl, hf⟩
  have HF2 := hid (HF1.out.trans hf (fun _ _ h => h))
  clear hf HF1 hsm
  by_cases hs : smallB qs L = true
  · rw [hs]
    by_cases hgo : Q ≠ 0 ∧ T ≤ 40
    · obtain ⟨g0, g1⟩ := hgo
      obtain ⟨s1, s2, s3⟩ := smallB_true hs
      rw [← HQ.out] at s1
      have HS3 := hid s3
      clear hs s3
      have hq0 : 0 < qs.length := by have := HQ.out; omega
      obtain ⟨r, off, rfl, hcell⟩ := (HC.out.fr HF2.out (fun _ _ h => h)).cell hq0
      rw [Nat.add_zero] at hcell
      have hin := HC.out.inn qs[0] (List.getElem_mem hq0)
      have hi2 := HS3.out qs[0] (List.getElem_mem hq0)
      have hrl : r < w.heap.size := by
        obtain ⟨r', off', e, h, _⟩ := HC.out.vw.cell (fun e => by have := congrArg List.length e; simp at this; subst this; simp at hq0)
        simp only [Option.some.injEq, Addr.mk.injEq, and_true] at e
        rw [e.1]; exact h
      have hth0 : (start (qs.map (·.2)) mem).ths[0]? = some ⟨qs[0].2, 0, fun _ => none, false⟩ := by simp [start, hq0]
      obtain ⟨⟨⟨sp, sc⟩, code⟩, hq2⟩ : ∃ q, q = qs[0] := ⟨_, rfl⟩
      rw [← hq2] at hcell hin hi2 hth0
      dsimp only at hcell hin hi2 hth0
      have HTH := hid hth0
      have HIN := hid hin
      obtain ⟨C, hC⟩ : ∃ C, C = code.length := ⟨_, rfl⟩
      rw [← hC] at hcell hi2
      have HCL := hid hC
      have hQb : ((Q : Int) == 0) = false := by simpa using g0
      clear hin hth0 hq2 hC
      go_wp2_with (first | fail | still_step | (with_reducible refine wpStill_nil ?_) | (with_reducible refine Flow.Both.mk ?_ ?_) | (with_reducible exact True.intro) | (with_reducible refine Flow.same_mk rfl rfl rfl ?_; go_simp; done) | (with_reducible exact Flow.same_un rfl rfl rfl) | (refine Flow.region_still mixed ?hB ?_; (case hB => decide +kernel)))
      go_loopw [9] (fun i wr => ∃ k : Nat, k ≤ C ∧ i = .int .i64 k ∧ (∀ (j : Nat) (x : Ins), j < k → code[j]? = some x → x.k ≠ 4 ∧ x.k ≠ 5 ∧ x.k ≠ 9 ∧ x.k ≠ 10) ∧ Fr (fun _ => False) w2 wr) (fun i _ => C - (intOf i).toNat)
      case atStart => exact ⟨0, Nat.zero_le _, rfl, fun j x h => absurd h (Nat.not_lt_zero _), Fr.refl _ _⟩
      case round =>
        obtain ⟨k, hk, rfl, hall, hf⟩ := hrel
        have HF := hid hf
        have HALL := hid hall
        have hcell' := hf.cell hcell (fun h => h)
        clear hf hall
        by_cases hlt : k < C
        · have hkl : k < code.length := by have := HCL.out; omega
          have hne : codeC code ≠ [] := fun e => by have := codeC_length code; rw [e] at this; simp at this; omega
          obtain ⟨rc, offc, rfl, _, hcc⟩ := ((HIN.out.1.fr HF2.out (fun _ _ h => h)).fr HF.out (fun _ _ h => h)).cell hne
          have hj : code[k]? = some code[k] := by simp [hkl]
          have q0 := hcc (k * 7) _ (codeC_get code k _ hj 0 _ rfl)
          have HJ := hid hj
          clear hcc hne hj
          by_cases hbad : code[k].k = 4 ∨ code[k].k = 5 ∨ code[k].k = 9 ∨ code[k].k = 10
          · clear HJ
            generalize code[k].k = kk at *
            rcases hbad with rfl | rfl | rfl | rfl
            all_goals
              go_wp2_with (first | fail | still_step | (with_reducible refine wpStill_nil ?_) | (with_reducible refine Flow.Both.mk ?_ ?_) | (with_reducible exact True.intro) | (with_reducible refine Flow.same_mk rfl rfl rfl ?_; go_simp; done) | (with_reducible exact Flow.same_un rfl rfl rfl) | (refine Flow.region_still mixed ?hB ?_; (case hB => decide +kernel)))
              go_ret
              exact ⟨rfl, (HF2.out.trans HF.out (fun _ _ h => h)).below (Nat.le_refl _) (fun _ _ h => h)⟩
          · have h4 : code[k].k ≠ 4 ∧ code[k].k ≠ 5 ∧ code[k].k ≠ 9 ∧ code[k].k ≠ 10 := by omega
            have hall2 : ∀ (j : Nat) (x : Ins), j < k + 1 → code[j]? = some x → x.k ≠ 4 ∧ x.k ≠ 5 ∧ x.k ≠ 9 ∧ x.k ≠ 10 := fun j x hj hx => by
              by_cases hjk : j = k
              · subst hjk; rw [HJ.out] at hx; obtain rfl := Option.some.inj hx; exact h4
              · exact HALL.out j x (by omega) hx
            have HALL2 := hid hall2
            clear hbad hall2 HJ
            generalize code[k].k = kk at *
            obtain ⟨n4, n5, n9, n10⟩ := h4
            have m4 : (kk == 4) = false := by simpa using n4
            have m5 : (kk == 5) = false := by simpa using n5
            have m9 : (kk == 9) = false := by simpa using n9
            have m10 : (kk == 10) = false := by simpa using n10
            go_wp2_with (first | fail | still_step | (with_reducible refine wpStill_nil ?_) | (with_reducible refine Flow.Both.mk ?_ ?_) | (with_reducible exact True.intro) | (with_reducible refine Flow.same_mk rfl rfl rfl ?_; go_simp; done) | (with_reducible exact Flow.same_un rfl rfl rfl) | (refine Flow.region_still mixed ?hB ?_; (case hB => decide +kernel)))
            go_roundw
            case rel =>
              have hrl : ∃ k_1 : Nat, k_1 ≤ C ∧ (Value.int .i64 ((k : Int) + 1)) = .int .i64 k_1 ∧ (∀ (j : Nat) (x : Ins), j < k_1 → code[j]? = some x → x.k ≠ 4 ∧ x.k ≠ 5 ∧ x.k ≠ 9 ∧ x.k ≠ 10) ∧ Fr (fun _ => False) w2 wr := ⟨k + 1, by omega, by go_num, HALL2.out, HF.out⟩
              first | exact hrl | ((repeat apply Exists.intro); exact ⟨hrl, rfl⟩)
            case measure => simp [intOf]; omega
        · obtain rfl : k = C := by omega
          have hal : alone code := fun x hx => by
            obtain ⟨j, hj⟩ := List.mem_iff_getElem?.1 hx
            exact HALL.out j x (by have := (List.getElem?_eq_some_iff.1 hj).1; have := HCL.out; omega) hj
          have HAL := hid hal
          obtain ⟨wa, rfl⟩ : ∃ wa : World, wa = wr := ⟨_, rfl⟩
          have HFa := hid (HF2.out.trans HF.out (fun _ _ h => h))
          clear hal HALL HF HF2
          go_wp2_with (first | fail | still_step | (with_reducible refine wpStill_nil ?_) | (with_reducible refine Flow.Both.mk ?_ ?_) | (with_reducible exact True.intro) | (with_reducible refine Flow.same_mk rfl rfl rfl ?_; go_simp; done) | (with_reducible exact Flow.same_un rfl rfl rfl) | (refine Flow.region_still mixed ?hB ?_; (case hB => decide +kernel)))
          go_at_call 8
          have hnA := new_at (fun k => k < w.heap.size) (fun k => k < w.heap.size) (some ⟨r, off, none⟩) am co cm qs mem wa (HC.out.fr HFa.out (fun _ _ h => h)) (HM.out.fr HFa.out (fun _ _ h => h)) (by rw [← HL.out]; exact hmn) (by rw [← HQ.out]; omega) (by rw [← HL.out]; omega) (fun q hq => by have := HS3.out q hq; omega)
          rw [← HQ.out, ← HL.out] at hnA
          refine hnA.mono ?_
          rintro e w3 ⟨A, rfl, hA, hfA⟩
          have HF3 := hid (HFa.out.trans hfA (fun _ _ h => h))
          have HA := hid hA
          have z3 := hfA.size
          have z2 := HFa.out.size
          have hcell3 := hfA.cell hcell' (fun h => h)
          clear hA hfA hnA
          go_wp2_with (first | fail | still_step | (with_reducible refine wpStill_nil ?_) | (with_reducible refine Flow.Both.mk ?_ ?_) | (with_reducible exact True.intro) | (with_reducible refine Flow.same_mk rfl rfl rfl ?_; go_simp; done) | (with_reducible exact Flow.same_un rfl rfl rfl) | (refine Flow.region_still mixed ?hB ?_; (case hB => decide +kernel)))
          go_at_call 8
          have hnB := new_at (fun k => k = w3.heap.size ∨ k < w.heap.size) (fun _ => False) (some ⟨w3.heap.size, 0, none⟩) none 1 0 [((sp, sc), code)] [] (w3.alloc (.cells #[.slice sp k sc] 40))
            ⟨Vw.of_blk (C := #[.slice sp k sc]) (T := 40) (Blk.new _ _ _) (Or.inl rfl) rfl |> fun h => by rw [HCL.out] at h ⊢; exact h, fun q hq => by
              obtain rfl := List.mem_singleton.1 hq
              exact ⟨((HIN.out.1.fr HF3.out (fun _ _ h => h)).fr (S := fun _ => False) (by (repeat' (first | with_reducible exact Fr.refl _ _ | with_reducible apply Fr.alloc | with_reducible apply Fr.drew | with_reducible apply Fr.drewN | (with_reducible refine Fr.setCell ?_ ?_ _)))) (fun _ _ h => h)).mono (fun _ h => .inr h), HIN.out.2⟩⟩ ⟨rfl, .inl rfl⟩ (fun _ => rfl) (by simp) (by simp) (fun q hq => by obtain rfl := List.mem_singleton.1 hq; show code.length ≤ 1000; have := HCL.out; omega)
          refine hnB.mono ?_
          rintro e w4 ⟨B, rfl, hB, hfB⟩
          have hfb : Fr (fun _ => False) w3 (w3.alloc (.cells #[.slice sp k sc] 40)) := by (repeat' (first | with_reducible exact Fr.refl _ _ | with_reducible apply Fr.alloc | with_reducible apply Fr.drew | with_reducible apply Fr.drewN | (with_reducible refine Fr.setCell ?_ ?_ _)))
          have hs3 : (w3.alloc (.cells #[.slice sp k sc] 40)).heap.size = w3.heap.size + 1 := by simp
          obtain ⟨RA, hRA⟩ : ∃ RA : Nat → Prop, RA = (fun k => wa.heap.size ≤ k ∧ k < w3.heap.size) := ⟨_, rfl⟩
          obtain ⟨RB, hRB⟩ : ∃ RB : Nat → Prop, RB = (fun z => (w3.alloc (.cells #[.slice sp k sc] 40)).heap.size ≤ z ∧ z < w4.heap.size) := ⟨_, rfl⟩
          have hA4 := (HA.out.fr hfb (fun _ _ h => h)).fr hfB (fun _ _ h => h)
          rw [← hRA] at hA4
          rw [← hRB] at hB
          have hF4 := (HF3.out.trans hfb (fun _ _ h => h)).trans hfB (fun _ _ h => h)
          obtain ⟨m, hm⟩ : ∃ m, m = start (qs.map (·.2)) mem := ⟨_, rfl⟩
          obtain ⟨n, hn⟩ : ∃ n, n = start ([((sp, sc), code)].map (·.2)) [] := ⟨_, rfl⟩
          have hthm := HTH.out
          have hthn : n.ths[0]? = some ⟨code, 0, fun _ => none, false⟩ := by rw [hn]; rfl
          rw [← hm] at hA4 hthm
          rw [← hn] at hB
          have HK : Hid (Alike m n) := hid ⟨_, hthm, hthn, HAL.out⟩
          have HP : Hid (Pair w.heap.size w w4 RA RB A B m n) := hid ⟨hA4, hB, hF4, fun k hk => by rw [hRA] at hk; omega, fun k hk => by rw [hRB, hs3] at hk; omega, fun k hk hh => by rw [hRA] at hk; rw [hRB, hs3] at hh; omega, Nat.le_refl _⟩
          clear hA4 hB hfB hnB HF3 HA hRA hRB hF4 hm hn hthm hthn HAL HTH HS3 hcell hcell' hcell3 hfb hs3 HIN z2 z3 HFa
          go_wp2_with (first | fail | still_step | (with_reducible refine wpStill_nil ?_) | (with_reducible refine Flow.Both.mk ?_ ?_) | (with_reducible exact True.intro) | (with_reducible refine Flow.same_mk rfl rfl rfl ?_; go_simp; done) | (with_reducible exact Flow.same_un rfl rfl rfl) | (refine Flow.region_still mixed ?hB ?_; (case hB => decide +kernel)))
          go_loopw [13] (fun i wr => ∃ (j : Nat) (m n : M), j ≤ T ∧ i = .int .i64 j ∧ Pair w.heap.size w wr RA RB A B m n ∧ Alike m n) (fun i _ => T - (intOf i).toNat)
          case atStart => exact ⟨0, m, n, Nat.zero_le _, rfl, HP.out, HK.out⟩
          case round =>
            clear HP HK
            obtain ⟨j, mj, nj, hj, rfl, hp, hal⟩ := hrel
            have HP := hid hp
            have HK := hid hal
            clear hp hal
            by_cases hlt : j < T
            · have hjl : j < turns.length := by have := HTL.out; omega
              have hne : ints turns ≠ [] := fun h => by have := congrArg List.length h; rw [ints_length, List.length_nil] at this; omega
              obtain ⟨rt, offt, rfl, hrt, hcl⟩ := (HT.out.fr HP.out.fr (fun _ _ h => h)).cell hne
              have t0 := hcl j _ (ints_get' turns j hjl)
              have hrt2 : rt < w.heap.size := by
                obtain ⟨r', off', e, h, _⟩ := HT.out.cell hne
                simp only [Option.some.injEq, Addr.mk.injEq, and_true] at e
                rw [e.1]; exact h
              clear hcl hne hrt
              generalize turns[j] = who at *
              go_wp2_with (first | fail | still_step | (with_reducible refine wpStill_nil ?_) | (with_reducible refine Flow.Both.mk ?_ ?_) | (with_reducible exact True.intro) | (with_reducible refine Flow.same_mk rfl rfl rfl ?_; go_simp; done) | (with_reducible exact Flow.same_un rfl rfl rfl) | (refine Flow.region_still mixed ?hB ?_; (case hB => decide +kernel)))
              go_at_call 9
              refine (HP.out.turnA who 30 (by decide)).mono ?_
              rintro e w5 ⟨rfl, hp, hf⟩
              dsimp only [evV]
              have t5 := hf.cell t0 (fun h => by have := HP.out.newA _ h; dsimp only at this; omega)
              have hr5 : rt < w5.heap.size := by have := hf.size; have := HP.out.fr.size; omega
              have HP5 := hid hp
              have y5 : ∀ k, RB k → k < w5.heap.size := hp.b.lt
              clear hp hf
              by_cases hw0 : who = 0
              · subst hw0
                have hres := alike_turn HK.out 30
                obtain ⟨res, hr⟩ : ∃ res, res = mj.turn 0 30 := ⟨_, rfl⟩
                obtain ⟨res2, hr2⟩ : ∃ res2, res2 = nj.turn 0 30 := ⟨_, rfl⟩
                rw [← hr] at hres HP5
                rw [← hr2] at hres
                rw [← hr]
                have HR2 := hid hr2
                obtain ⟨m1, e1, x1⟩ := res
                obtain ⟨n1, e2, x2⟩ := res2
                dsimp only at hres HP5 ⊢
                obtain ⟨hk2, he⟩ := hres
                obtain ⟨rfl, rfl⟩ : e1 = e2 ∧ x1 = x2 := by simpa using he
                have HK2 := hid hk2
                have HPl := hid (alike_place hk2)
                clear he hr hr2 hk2 HP HK
                have HE5 := hid (Blk.new w5 #[.int .i64 e1.kind, .int .i64 e1.thread, .int .i64 e1.n] 32)
                have HP5' := hid (HP5.out.frm (show Fr (fun _ => False) w5 (w5.alloc (.cells #[.int .i64 e1.kind, .int .i64 e1.thread, .int .i64 e1.n] 32)) by (repeat' (first | with_reducible exact Fr.refl _ _ | with_reducible apply Fr.alloc | with_reducible apply Fr.drew | with_reducible apply Fr.drewN | (with_reducible refine Fr.setCell ?_ ?_ _)))))
                clear HP5
                go_wp2_with (first | fail | still_step | (with_reducible refine wpStill_nil ?_) | (with_reducible refine Flow.Both.mk ?_ ?_) | (with_reducible exact True.intro) | (with_reducible refine Flow.same_mk rfl rfl rfl ?_; go_simp; done) | (with_reducible exact Flow.same_un rfl rfl rfl) | (refine Flow.region_still mixed ?hB ?_; (case hB => decide +kernel)))
                go_at_call 9
                refine (HP5'.out.turnB 0 30 (by decide)).mono ?_
                rintro e w7 ⟨rfl, hp, hf⟩
                dsimp only [evV]
                rw [← HR2.out]
                rw [← HR2.out] at hp
                dsimp only at hp ⊢
                have HP7 := hid (hp.frm (show Fr (fun _ => False) w7 (w7.alloc (.cells #[.int .i64 e1.kind, .int .i64 e1.thread, .int .i64 e1.n] 32)) by (repeat' (first | with_reducible exact Fr.refl _ _ | with_reducible apply Fr.alloc | with_reducible apply Fr.drew | with_reducible apply Fr.drewN | (with_reducible refine Fr.setCell ?_ ?_ _)))))
                have HE7 := hid ((HE5.out.fr hf (fun h => by have := y5 _ h; omega)).alloc (.cells #[.int .i64 e1.kind, .int .i64 e1.thread, .int .i64 e1.n] 32))
                have HG7 := hid (Blk.new w7 #[.int .i64 e1.kind, .int .i64 e1.thread, .int .i64 e1.n] 32)
                have hsz8 : w5.heap.size < w7.heap.size := (HE5.out.fr hf (fun h => by have := y5 _ h; omega)).lt
                have q0 := HE7.out.cell 0
                have q1 := HE7.out.cell 1
                have q2 := HE7.out.cell 2
                clear hp hf HP5' HE5 HR2
                go_wp2_with (first | fail | still_step | (with_reducible refine wpStill_nil ?_) | (with_reducible refine Flow.Both.mk ?_ ?_) | (with_reducible exact True.intro) | (with_reducible refine Flow.same_mk rfl rfl rfl ?_; go_simp; done) | (with_reducible exact Flow.same_un rfl rfl rfl) | (refine Flow.region_still mixed ?hB ?_; (case hB => decide +kernel)))
                go_at_call 12
                refine (place_at HP7.out.a 0).mono ?_
                rintro e w8 ⟨rfl, hf⟩
                rw [HPl.out]
                have HP8 := hid (HP7.out.frm hf)
                clear hf HP7
                go_wp2_with (first | fail | still_step | (with_reducible refine wpStill_nil ?_) | (with_reducible refine Flow.Both.mk ?_ ?_) | (with_reducible exact True.intro) | (with_reducible refine Flow.same_mk rfl rfl rfl ?_; go_simp; done) | (with_reducible exact Flow.same_un rfl rfl rfl) | (refine Flow.region_still mixed ?hB ?_; (case hB => decide +kernel)))
                go_at_call 12
                refine (place_at HP8.out.b 0).mono ?_
                rintro e w9 ⟨rfl, hf⟩
                have HP9 := hid (HP8.out.frm hf)
                clear hf HP8
                go_wp2_with (first | fail | still_step | (with_reducible refine wpStill_nil ?_) | (with_reducible refine Flow.Both.mk ?_ ?_) | (with_reducible exact True.intro) | (with_reducible refine Flow.same_mk rfl rfl rfl ?_; go_simp; done) | (with_reducible exact Flow.same_un rfl rfl rfl) | (refine Flow.region_still mixed ?hB ?_; (case hB => decide +kernel)))
                go_roundw
                case rel =>
                  have hrl : ∃ (k_1 : Nat) (m n : M), k_1 ≤ T ∧ (Value.int .i64 ((j : Int) + 1)) = .int .i64 k_1 ∧ Pair w.heap.size w w9 RA RB A B m n ∧ Alike m n := ⟨j + 1, m1, n1, by omega, by go_num, HP9.out, HK2.out⟩
                  first | exact hrl | ((repeat apply Exists.intro); exact ⟨hrl, rfl⟩)
                case measure => simp [intOf]; omega
              · have HK2 := hid (alike_other HK.out who 30 hw0)
                have hwb : (who == 0) = false := by simpa using hw0
                have HP6 := hid (HP5.out.frm (show Fr (fun _ => False) w5 (w5.alloc (.cells #[.int .i64 (mj.turn who 30).2.1.kind, .int .i64 (mj.turn who 30).2.1.thread, .int .i64 (mj.turn who 30).2.1.n] 32)) by (repeat' (first | with_reducible exact Fr.refl _ _ | with_reducible apply Fr.alloc | with_reducible apply Fr.drew | with_reducible apply Fr.drewN | (with_reducible refine Fr.setCell ?_ ?_ _)))))
                go_wp2_with (first | fail | still_step | (with_reducible refine wpStill_nil ?_) | (with_reducible refine Flow.Both.mk ?_ ?_) | (with_reducible exact True.intro) | (with_reducible refine Flow.same_mk rfl rfl rfl ?_; go_simp; done) | (with_reducible exact Flow.same_un rfl rfl rfl) | (refine Flow.region_still mixed ?hB ?_; (case hB => decide +kernel)))
                go_roundw
                case rel =>
                  have hrl : ∃ (k_1 : Nat) (m n : M), k_1 ≤ T ∧ (Value.int .i64 ((j : Int) + 1)) = .int .i64 k_1 ∧ Pair w.heap.size w (w5.alloc (.cells #[.int .i64 (mj.turn who 30).2.1.kind, .int .i64 (mj.turn who 30).2.1.thread, .int .i64 (mj.turn who 30).2.1.n] 32)) RA RB A B m n ∧ Alike m n := ⟨j + 1, _, _, by omega, by go_num, HP6.out, HK2.out⟩
                  first | exact hrl | ((repeat apply Exists.intro); exact ⟨hrl, rfl⟩)
                case measure => simp [intOf]; omega
            · obtain rfl : j = T := by omega
              go_wp2_with (first | fail | still_step | (with_reducible refine wpStill_nil ?_) | (with_reducible refine Flow.Both.mk ?_ ?_) | (with_reducible exact True.intro) | (with_reducible refine Flow.same_mk rfl rfl rfl ?_; go_simp; done) | (with_reducible exact Flow.same_un rfl rfl rfl) | (refine Flow.region_still mixed ?hB ?_; (case hB => decide +kernel)))
              go_ret
              exact ⟨rfl, HP.out.fr.below (Nat.le_refl _) (fun _ _ h => h)⟩
    · have hsp : Q = 0 ∨ (Q ≠ 0 ∧ 40 < T) := by omega
      clear hgo
      rcases hsp with h | ⟨h, h2⟩
      all_goals
        go_wp2_with (first | fail | still_step | (with_reducible refine wpStill_nil ?_) | (with_reducible refine Flow.Both.mk ?_ ?_) | (with_reducible exact True.intro) | (with_reducible refine Flow.same_mk rfl rfl rfl ?_; go_simp; done) | (with_reducible exact Flow.same_un rfl rfl rfl) | (refine Flow.region_still mixed ?hB ?_; (case hB => decide +kernel)))
        go_ret
        exact ⟨rfl, HF2.out.below (Nat.le_refl _) (fun _ _ h => h)⟩
  · have hs : smallB qs L = false := by simpa using hs
    rw [hs]
    go_wp2_with (first | fail | still_step | (with_reducible refine wpStill_nil ?_) | (with_reducible refine Flow.Both.mk ?_ ?_) | (with_reducible exact True.intro) | (with_reducible refine Flow.same_mk rfl rfl rfl ?_; go_simp; done) | (with_reducible exact Flow.same_un rfl rfl rfl) | (refine Flow.region_still mixed ?hB ?_; (case hB => decide +kernel)))
    go_ret
    exact ⟨rfl, HF2.out.below (Nat.le_refl _) (fun _ _ h => h)⟩
end Go.Proofs.Ytokmdjpaegaojaa.Seq
