/-
  Whatever is done: Do.
-/
import Derived.Test.YtbfeopakmjcapaaSpP
import Derived.Test.YtbfeopakmjcapaaSpK
import Derived.Test.YtbfeopakmjcapaaSpB
set_option linter.unusedVariables false
set_option linter.unusedSimpArgs false
set_option maxHeartbeats 4000000
set_option maxRecDepth 8000
namespace Go.Proofs.Ytbfeopakmjcapaa.Sp
open Go.RowKit Go.Proofs.Ytbfeopakmjcapaa.Seq Go.Proofs.Ytbfeopakmjcapaa.Tso
attribute [local irreducible] wpStill wpList Calls CallsIn

theorem under_doesS : Try.prog.underlying 81 = some (.map 3 79) := by kernel_rfl
theorem zero_doesS : (Try.prog.info? 79).map (fun i => i.zero) = some (some .nilFunc) := by kernel_rfl
theorem under_intD : Try.prog.underlying 3 = some (.int .i64) := by kernel_rfl

def fnV (F : Nat) : Value := .func (.func F) #[] #[]
def doesS : Int → Option Value := Go.Proofs.Ytbfeopakmjcapaa.upd (Go.Proofs.Ytbfeopakmjcapaa.upd (Go.Proofs.Ytbfeopakmjcapaa.upd (Go.Proofs.Ytbfeopakmjcapaa.upd (Go.Proofs.Ytbfeopakmjcapaa.upd (fun _ => none) 0 (some (fnV 33))) 1 (some (fnV 34))) 2 (some (fnV 35))) 3 (some (fnV 36))) 4 (some (fnV 37))
def doN (k : Int) : Nat := if k = 0 then 33 else if k = 1 then 34 else if k = 2 then 35 else if k = 3 then 36 else 37

theorem doesS_cases (k : Int) : (doesS k = none ∧ (k < 0 ∨ 4 < k)) ∨ (doesS k = some (fnV (doN k)) ∧ 0 ≤ k ∧ k ≤ 4) := by
  unfold doesS doN Go.Proofs.Ytbfeopakmjcapaa.upd
  repeat' split
  all_goals first | (exact .inr ⟨rfl, by omega⟩) | (exact .inl ⟨rfl, by omega⟩) | omega

theorem doN_cases (k : Int) : doN k = 33 ∨ doN k = 34 ∨ doN k = 35 ∨ doN k = 36 ∨ doN k = 37 := by
  unfold doN
  repeat' split
  all_goals simp

theorem one_is (SB : Nat) (R : Nat → Prop) (s : SM) (kind n : Int) (o : Op) (w : World) (h : SR w R SB s) (hg : s.guesses n = some o) (hok : OkS s) (hev : evRoom s.x) (hml : s.x.mem.length ≤ 100000) (hk : 0 ≤ kind ∧ kind ≤ 4) :
    Calls Try.prog (doN kind) #[.pointer (some ⟨SB, 0, none⟩), .int .i64 n] w fun e w' => e = .returned (.tuple #[leakV (s.doIt kind n).2.1, .bool (s.doIt kind n).2.2]) ∧ ∃ R', SR w' R' SB (s.doIt kind n).1 ∧ Mv R R' w w' := by
  have hln : o.1.length ≤ 1000 := by
    obtain ⟨k, rfl, ho⟩ := guesses_get hg
    obtain ⟨t, _, hop, _⟩ := hok.thread ho
    have := hop.now
    have := hok.win
    omega
  have hroom := hok.room
  unfold SM.doIt doN
  rw [hg]
  dsimp only
  by_cases e0 : kind = 0
  · rw [if_pos e0, if_pos e0]
    exact sstep_is SB R s n o w h hg hok.good hev
  rw [if_neg e0, if_neg e0]
  by_cases e1 : kind = 1
  · rw [if_pos e1, if_pos e1]
    exact sflush_is SB R s n o w h hg hln
  rw [if_neg e1, if_neg e1]
  by_cases e2 : kind = 2
  · rw [if_pos e2, if_pos e2]
    exact turn_is SB R s n o w h hg hok.good hln hroom
  rw [if_neg e2, if_neg e2]
  by_cases e3 : kind = 3
  · rw [if_pos e3, if_pos e3]
    exact pass_is SB R s n o w h hg hok.good hln hroom hml
  rw [if_neg e3, if_neg e3]
  rw [if_pos (show kind = 4 by omega)]
  exact back_is SB R s n o w h hg hok

theorem do_is (SB : Nat) (R : Nat → Prop) (s : SM) (kind n : Int) (w : World) (h : SR w R SB s) (hok : OkS s) (hev : evRoom s.x) (hml : s.x.mem.length ≤ 100000) :
    Calls Try.prog 13 #[.pointer (some ⟨SB, 0, none⟩), .agg #[.int .i64 kind, .int .i64 n]] w fun e w' => e = .returned (.tuple #[leakV (s.doIt kind n).2.1, .bool (s.doIt kind n).2.2]) ∧ ∃ R', SR w' R' SB (s.doIt kind n).1 ∧ Mv R R' w w' := by
  have hgs0 : ∀ o, s.guesses n = some o → ∀ w1, SR w1 R SB s → 0 ≤ kind ∧ kind ≤ 4 → Calls Try.prog (doN kind) #[.pointer (some ⟨SB, 0, none⟩), .int .i64 n] w1 fun e w' => e = .returned (.tuple #[leakV (s.doIt kind n).2.1, .bool (s.doIt kind n).2.2]) ∧ ∃ R', SR w' R' SB (s.doIt kind n).1 ∧ Mv R R' w1 w' := fun o hg w1 h1 hk => one_is SB R s kind n o w1 h1 hg hok hev hml hk
  have HONE := hid hgs0
  have hSR := h
  have HSR := hid h
  have hrl := h.lt
  have HRL := hid hrl
  obtain ⟨B, OB, oc, ids, D, A, C, V, G, Rm, h⟩ := h
  have h0 := h.head.cell 0
  have h1 := h.head.cell 1
  have hgs := fun (w1 : World) (hf : Fr (fun _ => False) w w1) => guesses_is SB B OB oc s.op.length n s.window w1 (hf.cell h0 (fun h => h)) (hf.cell h1 (fun h => h))
  have HG := hid hgs
  have hc := sr_cases h n
  have hno : s.guesses n = none → s.doIt kind n = (s, none_, false) := fun hn => by unfold SM.doIt; rw [hn]
  have hbad : kind < 0 ∨ 4 < kind → s.doIt kind n = (s, none_, false) := fun hk => by
    unfold SM.doIt
    split
    · rfl
    · rw [if_neg (by omega), if_neg (by omega), if_neg (by omega), if_neg (by omega), if_neg (by omega)]
  obtain ⟨res, hres0⟩ : ∃ r, r = s.doIt kind n := ⟨_, rfl⟩
  rw [← hres0] at hno hbad HONE ⊢
  obtain ⟨d4, hd4, hd5⟩ := unLK
  have hl0 : Blk ((w.alloc (.cells #[.int .i64 kind, .int .i64 n] 41)).alloc (.cells #[.int .i64 0, .int .i64 0, .int .i64 0, .int .i64 0] 37)) (w.heap.size + 1) #[.int .i64 0, .int .i64 0, .int .i64 0, .int .i64 0] 37 := Blk.new' (by simp)
  have HL := hid hl0
  have HX := hid ((Blk.new w #[.int .i64 kind, .int .i64 n] 41).alloc (.cells #[.int .i64 0, .int .i64 0, .int .i64 0, .int .i64 0] 37))
  have hres := fun (C : Array Value) (hC : C.size = 4) (tmps : Array Value) (w : World) (b : Nat) (ha : tmps.getD 4 undef = .pointer (some ⟨b, 0, none⟩)) (hb : Blk w b C 37) => results_ct (P := Try.prog) Try.results13 ha hb hd4 hd5 (by rw [hC]; exact szLK)
  have HRES := hid hres
  clear h h0 h1 hgs hres hl0 hres0 hSR hrl hgs0
  go_enter Try.func13, Try.ntmps13
  go_wp2_with (first | still_step | (with_reducible first | refine wpStill_nil ?_ | refine Flow.Both.mk ?_ ?_ | exact True.intro) | (with_reducible refine Flow.same_mk rfl rfl rfl ?_; go_simp; done) | (with_reducible exact Flow.same_un rfl rfl rfl) | (refine Flow.region_still mixed ?hB ?_; (case hB => decide +kernel)))
  rw [run_makeMap]
  simp only [Result.andThen, Oper.upon, World.size_alloc]
  obtain ⟨w0, hw0⟩ : ∃ w0, w0 = ((w.alloc (.cells #[.int .i64 kind, .int .i64 n] 41)).alloc (.cells #[.int .i64 0, .int .i64 0, .int .i64 0, .int .i64 0] 37)).alloc (.map #[] 0) := ⟨_, rfl⟩
  have hm0 : MapF w0 (w.heap.size + 2) .i64 (fun _ => none) := by rw [hw0]; have := MapF.made ((w.alloc (.cells #[.int .i64 kind, .int .i64 n] 41)).alloc (.cells #[.int .i64 0, .int .i64 0, .int .i64 0, .int .i64 0] 37)) .i64; simp only [World.size_alloc] at this; exact this
  have hx0 : Blk w0 w.heap.size #[.int .i64 kind, .int .i64 n] 41 := by rw [hw0]; exact HX.out.alloc _
  have hll0 : Blk w0 (w.heap.size + 1) #[.int .i64 0, .int .i64 0, .int .i64 0, .int .i64 0] 37 := by rw [hw0]; exact HL.out.alloc _
  have hf0 : Fr (fun _ => False) w w0 := by rw [hw0]; (with_reducible repeat' (first | exact Fr.refl _ _ | apply Fr.alloc | apply Fr.drew | apply Fr.drewN | refine Fr.setCell ?_ ?_ _))
  have HM := hid (⟨hm0, Fr.refl _ _⟩ : MapF w0 (w.heap.size + 2) .i64 (fun _ => none) ∧ Fr (fun x => x = w.heap.size + 2) w0 w0)
  have HX0 := hid hx0
  have HL0 := hid hll0
  have HF0 := hid hf0
  rw [← hw0]
  clear hm0 hw0 hx0 hll0 hf0 HL HX
  rcases doesS_cases kind with ⟨hd1, hd2⟩ | ⟨hd1, hd2⟩
  · have HB := hid (hbad hd2)
    clear hno hbad hc HONE hd2
    go_wp2_with (first | (refine wpList_insert (n := 0) (u := fnV 33) rfl (.tmp 9) (.const (.int .i64 0)) (.func 33) (.inl rfl) under_doesS under_intD rfl rfl HM.out.1 rfl ?_; intro wn hm hf; have HM1 := hid (⟨hm, HM.out.2.trans hf (fun _ _ h => h)⟩ : _ ∧ Fr (fun x => x = w.heap.size + 2) w0 wn); clear HM hm hf; have HM := HM1; clear HM1) | (refine wpList_insert (n := 1) (u := fnV 34) rfl (.tmp 9) (.const (.int .i64 1)) (.func 34) (.inl rfl) under_doesS under_intD rfl rfl HM.out.1 rfl ?_; intro wn hm hf; have HM1 := hid (⟨hm, HM.out.2.trans hf (fun _ _ h => h)⟩ : _ ∧ Fr (fun x => x = w.heap.size + 2) w0 wn); clear HM hm hf; have HM := HM1; clear HM1) | (refine wpList_insert (n := 2) (u := fnV 35) rfl (.tmp 9) (.const (.int .i64 2)) (.func 35) (.inl rfl) under_doesS under_intD rfl rfl HM.out.1 rfl ?_; intro wn hm hf; have HM1 := hid (⟨hm, HM.out.2.trans hf (fun _ _ h => h)⟩ : _ ∧ Fr (fun x => x = w.heap.size + 2) w0 wn); clear HM hm hf; have HM := HM1; clear HM1) | (refine wpList_insert (n := 3) (u := fnV 36) rfl (.tmp 9) (.const (.int .i64 3)) (.func 36) (.inl rfl) under_doesS under_intD rfl rfl HM.out.1 rfl ?_; intro wn hm hf; have HM1 := hid (⟨hm, HM.out.2.trans hf (fun _ _ h => h)⟩ : _ ∧ Fr (fun x => x = w.heap.size + 2) w0 wn); clear HM hm hf; have HM := HM1; clear HM1) | (refine wpList_insert (n := 4) (u := fnV 37) rfl (.tmp 9) (.const (.int .i64 4)) (.func 37) (.inl rfl) under_doesS under_intD rfl rfl HM.out.1 rfl ?_; intro wn hm hf; have HM1 := hid (⟨hm, HM.out.2.trans hf (fun _ _ h => h)⟩ : _ ∧ Fr (fun x => x = w.heap.size + 2) w0 wn); clear HM hm hf; have HM := HM1; clear HM1; have hx := HX0.out.fr HM.out.2 (by omega); have c0_x := hx.cell 0; have c1_x := hx.cell 1; have HXn := hid hx; have HL3 := hid (HL0.out.fr HM.out.2 (by omega)); have HFn := hid (HF0.out.trans (S := fun _ => False) HM.out.2 (fun k hk e => by omega)); have hl : (Instr.lookup 81 (.map (some (w.heap.size + 2))) (.int .i64 kind) true).run Try.prog wn = .ok (.tuple #[(doesS kind).getD .nilFunc, .bool (doesS kind).isSome]) wn := (run_look under_doesS under_intD HM.out.1 kind (run_zero zero_doesS wn) true); rw [hd1] at hl; simp only [Option.getD_none, Option.getD_some, Option.isSome_none, Option.isSome_some] at hl; (try dsimp only [fnV] at hl); have lx := hx.lt; have ll := HL3.out.lt; clear hx HM HX0 HL0 HF0; skip) | ((with_reducible apply wpList_storeA (b := w.heap.size + 1) (C := #[.int .i64 0, .int .i64 0, .int .i64 0, .int .i64 0]) (T := 37)); (case zsx => rfl); (case zsy => rfl); (case zsn => rfl); (case zsi => exact szLK); (case zs1 => rfl); (case zsb => ((repeat' (first | with_reducible exact HL1.out | with_reducible exact HL2.out | with_reducible exact HL3.out | with_reducible exact HL4.out | with_reducible apply Blk.drew | (with_reducible refine Blk.set_ne ?_ ?_ _))); all_goals (first | omega | (simp; omega) | (simp; done)))); intro w9 hb9 hf9 hs9; have HB9 := hid hb9; have HF9 := hid hf9; have HSZ9 := hid hs9; clear hb9 hf9 hs9) | still_step | (with_reducible first | refine wpStill_nil ?_ | refine Flow.Both.mk ?_ ?_ | exact True.intro) | (with_reducible refine Flow.same_mk rfl rfl rfl ?_; go_simp; done) | (with_reducible exact Flow.same_un rfl rfl rfl) | (refine Flow.region_still mixed ?hB ?_; (case hB => decide +kernel)))
    refine bodyPost_ret (HRES.out _ rfl _ _ _ rfl HB9.out) rfl ?_
    have hF9 : Fr (fun _ => False) w w9 := fr_weaken (by (repeat' (first | with_reducible exact HFn.out | with_reducible apply Fr.drew))) HF9.out (by omega)
    rw [HB.out]
    exact ⟨rfl, R, HSR.out.fr hF9 (fun _ _ h => h), Mv.of_fr hF9⟩
  · have HD2 := hid hd2
    clear hbad hd2
    go_wp2_with (first | (refine wpList_insert (n := 0) (u := fnV 33) rfl (.tmp 9) (.const (.int .i64 0)) (.func 33) (.inl rfl) under_doesS under_intD rfl rfl HM.out.1 rfl ?_; intro wn hm hf; have HM1 := hid (⟨hm, HM.out.2.trans hf (fun _ _ h => h)⟩ : _ ∧ Fr (fun x => x = w.heap.size + 2) w0 wn); clear HM hm hf; have HM := HM1; clear HM1) | (refine wpList_insert (n := 1) (u := fnV 34) rfl (.tmp 9) (.const (.int .i64 1)) (.func 34) (.inl rfl) under_doesS under_intD rfl rfl HM.out.1 rfl ?_; intro wn hm hf; have HM1 := hid (⟨hm, HM.out.2.trans hf (fun _ _ h => h)⟩ : _ ∧ Fr (fun x => x = w.heap.size + 2) w0 wn); clear HM hm hf; have HM := HM1; clear HM1) | (refine wpList_insert (n := 2) (u := fnV 35) rfl (.tmp 9) (.const (.int .i64 2)) (.func 35) (.inl rfl) under_doesS under_intD rfl rfl HM.out.1 rfl ?_; intro wn hm hf; have HM1 := hid (⟨hm, HM.out.2.trans hf (fun _ _ h => h)⟩ : _ ∧ Fr (fun x => x = w.heap.size + 2) w0 wn); clear HM hm hf; have HM := HM1; clear HM1) | (refine wpList_insert (n := 3) (u := fnV 36) rfl (.tmp 9) (.const (.int .i64 3)) (.func 36) (.inl rfl) under_doesS under_intD rfl rfl HM.out.1 rfl ?_; intro wn hm hf; have HM1 := hid (⟨hm, HM.out.2.trans hf (fun _ _ h => h)⟩ : _ ∧ Fr (fun x => x = w.heap.size + 2) w0 wn); clear HM hm hf; have HM := HM1; clear HM1) | (refine wpList_insert (n := 4) (u := fnV 37) rfl (.tmp 9) (.const (.int .i64 4)) (.func 37) (.inl rfl) under_doesS under_intD rfl rfl HM.out.1 rfl ?_; intro wn hm hf; have HM1 := hid (⟨hm, HM.out.2.trans hf (fun _ _ h => h)⟩ : _ ∧ Fr (fun x => x = w.heap.size + 2) w0 wn); clear HM hm hf; have HM := HM1; clear HM1; have hx := HX0.out.fr HM.out.2 (by omega); have c0_x := hx.cell 0; have c1_x := hx.cell 1; have HXn := hid hx; have HL3 := hid (HL0.out.fr HM.out.2 (by omega)); have HFn := hid (HF0.out.trans (S := fun _ => False) HM.out.2 (fun k hk e => by omega)); have hl : (Instr.lookup 81 (.map (some (w.heap.size + 2))) (.int .i64 kind) true).run Try.prog wn = .ok (.tuple #[(doesS kind).getD .nilFunc, .bool (doesS kind).isSome]) wn := (run_look under_doesS under_intD HM.out.1 kind (run_zero zero_doesS wn) true); rw [hd1] at hl; simp only [Option.getD_none, Option.getD_some, Option.isSome_none, Option.isSome_some] at hl; (try dsimp only [fnV] at hl); have lx := hx.lt; have ll := HL3.out.lt; clear hx HM HX0 HL0 HF0; skip) | still_step | (with_reducible first | refine wpStill_nil ?_ | refine Flow.Both.mk ?_ ?_ | exact True.intro) | (with_reducible refine Flow.same_mk rfl rfl rfl ?_; go_simp; done) | (with_reducible exact Flow.same_un rfl rfl rfl) | (refine Flow.region_still mixed ?hB ?_; (case hB => decide +kernel)))
    refine (HG.out _ (by first | exact HFn.out | exact HFn.out.drew)).mono ?_
    rintro e w2 ⟨rfl, hf⟩
    have hx2 := HXn.out.fr hf (fun h => h)
    have HL2 := hid (HL3.out.fr hf (fun h => h))
    have HF2 := hid (HFn.out.trans hf (fun _ _ h => h))
    have c1_y := hx2.cell 1
    have l2 := hx2.lt
    have l2l := HL2.out.lt
    clear hf hx2 c0_x c1_x HXn HL3 HFn lx ll
    rcases hc with ⟨hn, hb⟩ | ⟨k, o, rfl, hk, hg, hgo, c0, c1⟩
    · have HB := hid (hno hn)
      rw [if_neg (by omega)]
      clear hno hn hb HONE
      go_wp2_with (first | ((with_reducible apply wpList_storeA (b := w.heap.size + 1) (C := #[.int .i64 0, .int .i64 0, .int .i64 0, .int .i64 0]) (T := 37)); (case zsx => rfl); (case zsy => rfl); (case zsn => rfl); (case zsi => exact szLK); (case zs1 => rfl); (case zsb => ((repeat' (first | with_reducible exact HL1.out | with_reducible exact HL2.out | with_reducible exact HL3.out | with_reducible exact HL4.out | with_reducible apply Blk.drew | (with_reducible refine Blk.set_ne ?_ ?_ _))); all_goals (first | omega | (simp; omega) | (simp; done)))); intro w9 hb9 hf9 hs9; have HB9 := hid hb9; have HF9 := hid hf9; have HSZ9 := hid hs9; clear hb9 hf9 hs9) | still_step | (with_reducible first | refine wpStill_nil ?_ | refine Flow.Both.mk ?_ ?_ | exact True.intro) | (with_reducible refine Flow.same_mk rfl rfl rfl ?_; go_simp; done) | (with_reducible exact Flow.same_un rfl rfl rfl) | (refine Flow.region_still mixed ?hB ?_; (case hB => decide +kernel)))
      refine bodyPost_ret (HRES.out _ rfl _ _ _ rfl HB9.out) rfl ?_
      have hF9 : Fr (fun _ => False) w w9 := fr_weaken (by (repeat' (first | with_reducible exact HF2.out | with_reducible apply Fr.drew))) HF9.out (by omega)
      rw [HB.out]
      exact ⟨rfl, R, HSR.out.fr hF9 (fun _ _ h => h), Mv.of_fr hF9⟩
    · rw [if_pos (by omega), show ((k : Nat) : Int).toNat = k by simp]
      have HG2 := hid hg
      clear hno hgo c0 c1 hg
      rcases doN_cases kind with hN | hN | hN | hN | hN
      all_goals
        rw [hN]
        go_wp2_with (first | still_step | (with_reducible first | refine wpStill_nil ?_ | refine Flow.Both.mk ?_ ?_ | exact True.intro) | (with_reducible refine Flow.same_mk rfl rfl rfl ?_; go_simp; done) | (with_reducible exact Flow.same_un rfl rfl rfl) | (refine Flow.region_still mixed ?hB ?_; (case hB => decide +kernel)))
        have hcall := HONE.out o HG2.out w2 (HSR.out.fr HF2.out (fun _ _ h => h)) HD2.out
        rw [hN] at hcall
        refine hcall.mono ?_
        clear hcall
        rintro e w3 ⟨rfl, R3, hm3, hv3⟩
        obtain ⟨s3, ⟨kk, kt, kw, kn⟩, is3⟩ := res
        dsimp only [leakV] at hm3 ⊢
        have hl3 : Blk w3 (w.heap.size + 1) #[.int .i64 0, .int .i64 0, .int .i64 0, .int .i64 0] 37 := HL2.out.fr hv3.2.2 (fun hk => by have := HRL.out _ hk; omega)
        have HL4 := hid hl3
        have l3 := hl3.lt
        have HM3 := hid hm3
        have HV3 := hid ((Mv.of_fr (R := R) HF2.out).trans hv3)
        have HNS := hid (show ∀ x, R3 x → ¬ (x = w.heap.size + 1) from fun x hx e => by
          rcases hv3.2.1 x hx with h | h
          · have := HRL.out _ h; omega
          · omega)
        clear hm3 hv3 hl3 c1_y l2 HL2
        go_wp2_with (first | ((with_reducible apply wpList_storeA (b := w.heap.size + 1) (C := #[.int .i64 0, .int .i64 0, .int .i64 0, .int .i64 0]) (T := 37)); (case zsx => rfl); (case zsy => rfl); (case zsn => rfl); (case zsi => exact szLK); (case zs1 => rfl); (case zsb => ((repeat' (first | with_reducible exact HL1.out | with_reducible exact HL2.out | with_reducible exact HL3.out | with_reducible exact HL4.out | with_reducible apply Blk.drew | (with_reducible refine Blk.set_ne ?_ ?_ _))); all_goals (first | omega | (simp; omega) | (simp; done)))); intro w9 hb9 hf9 hs9; have HB9 := hid hb9; have HF9 := hid hf9; have HSZ9 := hid hs9; clear hb9 hf9 hs9) | still_step | (with_reducible first | refine wpStill_nil ?_ | refine Flow.Both.mk ?_ ?_ | exact True.intro) | (with_reducible refine Flow.same_mk rfl rfl rfl ?_; go_simp; done) | (with_reducible exact Flow.same_un rfl rfl rfl) | (refine Flow.region_still mixed ?hB ?_; (case hB => decide +kernel)))
        refine bodyPost_ret (HRES.out _ rfl _ _ _ rfl HB9.out) rfl ?_
        have hF9 : Fr (fun x => x = w.heap.size + 1) w3 w9 := by first | exact HF9.out | exact (Fr.refl _ _).drew.trans HF9.out (fun _ _ h => h)
        exact ⟨rfl, R3, HM3.out.fr hF9 HNS.out, HV3.out.1, HV3.out.2.1, HV3.out.2.2.trans hF9 (fun x hx e => by omega)⟩
end Go.Proofs.Ytbfeopakmjcapaa.Sp
