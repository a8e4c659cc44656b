/-
  A turn: Next.
-/
import Derived.Test.YtokmdjpaegaojaaSeq5
namespace Go.Proofs.Ytokmdjpaegaojaa.Seq
open Go.RowKit
attribute [local irreducible] wpStill wpList Calls CallsIn

/-- One of the five. -/
theorem event_is (B ob i : Nat) (R : Nat → Prop) (ids : List (Nat × Nat)) (m : M) (p : Nat × Nat) (t : Th) (ins : Ins) (who : Int) (w : World) (h : RunRep w B R ids ob m) (hp : ids[i]? = some p) (ht : m.ths[i]? = some t)
    {own' : Int → Option Int} {t' : Th} {ev : Ev} {x : Int} (he : event m.owner who t ins = some (own', t', ev, x)) (F : Nat) (hF : (ins.k = 11 ∧ F = 18) ∨ (ins.k = 9 ∧ F = 19) ∨ (ins.k = 10 ∧ F = 20) ∨ (ins.k = 12 ∧ F = 21) ∨ (ins.k = 13 ∧ F = 22)) :
    Calls Try.prog F #[.pointer (some ⟨B, 0, none⟩), .pointer (some ⟨p.1, 0, none⟩), .int .i64 who, .agg (insC ins).toArray] w fun e w' => e = .returned (.tuple #[evV ev, .int .i64 x]) ∧
      RunRep w' B R ids ob ⟨m.ths.set i t', m.mem, own'⟩ ∧ Fr R w w' := by
  obtain ⟨k, op, d, a, b, n, to⟩ := ins
  dsimp only at hF
  have hset : m.ths.set i t = m.ths := by
    apply List.ext_getElem?
    intro j
    rw [List.getElem?_set]
    by_cases hij : i = j
    · subst hij; rw [if_pos rfl, ht]; have := (List.getElem?_eq_some_iff.1 ht).1; simp [this]
    · rw [if_neg hij]
  rcases hF with ⟨rfl, rfl⟩ | ⟨rfl, rfl⟩ | ⟨rfl, rfl⟩ | ⟨rfl, rfl⟩ | ⟨rfl, rfl⟩
  · simp [event] at he
    obtain ⟨rfl, rfl, rfl, rfl⟩ := he
    exact out_is B ob i R ids m p t 11 op d a b n to who w h hp ht
  · cases hx : m.owner n with
    | some y =>
      simp [event, hx] at he
      obtain ⟨rfl, rfl, rfl, rfl⟩ := he
      rw [hset]
      exact take0_is B ob i R ids m p t 9 op d a b n to who w h hp ht y hx
    | none =>
      simp [event, hx] at he
      obtain ⟨rfl, rfl, rfl, rfl⟩ := he
      exact take1_is B ob i R ids m p t 9 op d a b n to who w h hp ht hx
  · simp [event] at he
    obtain ⟨rfl, rfl, rfl, rfl⟩ := he
    exact give_is B ob i R ids m p t 10 op d a b n to who w h hp ht
  · simp [event] at he
    obtain ⟨rfl, rfl, rfl, rfl⟩ := he
    exact trap_is B ob i R ids m p t 12 op d a b n to who w h hp ht
  · simp [event] at he
    obtain ⟨rfl, rfl, rfl, rfl⟩ := he
    exact halt_is B ob i R ids m p t 13 op d a b n to who w h hp ht

theorem run_max0 {P : Program} (ts : Array TypeId) (t : TypeId) (a : Int) (w : World) : (Builtin.max_ ts t #[.int .i64 a, .int .i64 0]).run P w = .ok (.int .i64 (a.toNat : Int)) w := by
  simp only [Builtin.max_]
  simp [List.foldlM_cons, List.foldlM_nil, Builtin.max2]
  split <;> omega

theorem under_does : Try.prog.underlying 62 = some (.map 3 61) := by kernel_rfl
theorem zero_does : (Try.prog.info? 61).map (fun i => i.zero) = some (some .nilFunc) := by kernel_rfl

def cloV (F B : Nat) : Value := .func (.func F) #[.pointer (some ⟨B, 0, none⟩)] #[]
def doesF (B : Nat) : Int → Option Value := upd (upd (upd (upd (upd (fun _ => none) 11 (some (cloV 18 B))) 9 (some (cloV 19 B))) 10 (some (cloV 20 B))) 12 (some (cloV 21 B))) 13 (some (cloV 22 B))

theorem event_none {own : Int → Option Int} {who : Int} {t : Th} {ins : Ins} (h : ins.k ≠ 9 ∧ ins.k ≠ 10 ∧ ins.k ≠ 11 ∧ ins.k ≠ 12 ∧ ins.k ≠ 13) : event own who t ins = none := by
  obtain ⟨h1, h2, h3, h4, h5⟩ := h
  simp [event, h1, h2, h3, h4, h5]

set_option maxHeartbeats 2000000 in
theorem turn_is (B ob : Nat) (R : Nat → Prop) (ids : List (Nat × Nat)) (m : M) (who fuel : Int) (w : World) (h : RunRep w B R ids ob m) (hfu : fuel < 9223372036854775807) :
    Calls Try.prog 9 #[.pointer (some ⟨B, 0, none⟩), .int .i64 who, .int .i64 fuel] w fun e w' => e = .returned (.tuple #[evV (m.turn who fuel).2.1, .int .i64 (m.turn who fuel).2.2]) ∧
      RunRep w' B R ids ob (m.turn who fuel).1 ∧ Fr R w w' := by
  have HR := hid h
  have hrl := h.lt
  rcases th_cases h who with ⟨h1, h2⟩ | ⟨k, p, t, rfl, hp, ht, h1, h2, hrep⟩
  · have e : m.turn who fuel = (m, none_, 2) := by
      unfold M.turn
      unfold M.th at h2
      split
      · rename_i hc; rw [if_pos hc] at h2; rw [h2]
      · rfl
    rw [e]
    clear h e h2
    go_enter Try.func9, Try.ntmps9
    have hev := Blk.new w #[.int .i64 0, .int .i64 0, .int .i64 0] 32
    have HEV := hid hev
    clear hev
    go_wp2_with (first | (go_at_call 17; refine (get_is B ob R ids m _ _ (HR.out.fr (S := fun _ => False) (by (repeat' (first | with_reducible exact Fr.refl _ _ | with_reducible apply Fr.alloc | with_reducible apply Fr.drew | with_reducible apply Fr.drewN | (with_reducible refine Fr.setCell ?_ ?_ _)))) (fun _ _ h => h))).mono ?_; rintro e w1 ⟨rfl, hf⟩; rw [h1]; have HF := hid hf; have HE := hid (HEV.out.fr hf (fun h => h)); have q6 := HE.out.cell 0; have q7 := HE.out.free 0; have q8 := HE.out.cell 1; have q9 := HE.out.free 1; have q10 := HE.out.cell 2; have q11 := HE.out.free 2; clear hf HEV) | still_step | (with_reducible refine wpStill_nil ?_) | (with_reducible refine Flow.Both.mk ?_ ?_) | (with_reducible exact True.intro) | (with_reducible refine Flow.same_mk rfl rfl rfl ?_; go_simp; done) | (with_reducible exact Flow.same_un rfl rfl rfl) | (refine Flow.region_still mixed ?hB ?_; (case hB => decide +kernel)))
    obtain ⟨r0, r1, r2⟩ := Blk.three HE.out (.int .i64 0) (.int .i64 0) (.int .i64 0)
    have HW := hid ((show Fr (fun _ => False) w _ from (Fr.refl _ _).alloc _).trans HF.out (fun _ _ h => h))
    exact bodyPost_ret (v := .tuple #[evV none_, .int .i64 2]) (by simp [results, Try.results9, go_sem, evV, none_, r0, r1, r2]) rfl ⟨rfl, (HR.out.fr HW.out (fun _ _ h => h)).fr (S := fun k => k = w.heap.size) (by (repeat' (first | with_reducible exact Fr.refl _ _ | with_reducible apply Fr.alloc | with_reducible apply Fr.drew | with_reducible apply Fr.drewN | (with_reducible refine Fr.setCell ?_ ?_ _))) <;> simp) (fun k hk h => by have := hrl k hk; omega), (HW.out.mono (S2 := R) (fun k _ h => h.elim)).trans (S := R) (S2 := fun k => k = w.heap.size) (by (repeat' (first | with_reducible exact Fr.refl _ _ | with_reducible apply Fr.alloc | with_reducible apply Fr.drew | with_reducible apply Fr.drewN | (with_reducible refine Fr.setCell ?_ ?_ _))) <;> simp) (fun k hk h => absurd hk (by omega))⟩
  · by_cases hov : t.over = true
    · have e : m.turn k fuel = (m, none_, 2) := by
        have hk := (List.getElem?_eq_some_iff.1 ht).1
        unfold M.turn
        rw [if_pos (by omega)]
        simp [ht, hov]
      rw [e]
      obtain ⟨ca, cc, hb, _, hm⟩ := hrep
      have hev := Blk.new w #[.int .i64 0, .int .i64 0, .int .i64 0] 32
      have HEV := hid hev
      have HB := hid hb
      clear h e h2 hb hm hev
      go_enter Try.func9, Try.ntmps9
      go_wp2_with (first | (go_at_call 17; refine (get_is B ob R ids m _ _ (HR.out.fr (S := fun _ => False) (by (repeat' (first | with_reducible exact Fr.refl _ _ | with_reducible apply Fr.alloc | with_reducible apply Fr.drew | with_reducible apply Fr.drewN | (with_reducible refine Fr.setCell ?_ ?_ _)))) (fun _ _ h => h))).mono ?_; rintro e w1 ⟨rfl, hf⟩; rw [h1]; have HF := hid hf; have b3 : w1.cell? ⟨p.1, 3, none⟩ = some (.bool t.over) := (((HB.out.alloc _).fr hf (fun h => h)).cell 3).trans rfl; rw [hov] at b3; have HE := hid (HEV.out.fr hf (fun h => h)); have q6 := HE.out.cell 0; have q7 := HE.out.free 0; have q8 := HE.out.cell 1; have q9 := HE.out.free 1; have q10 := HE.out.cell 2; have q11 := HE.out.free 2; clear hf HEV) | still_step | (with_reducible refine wpStill_nil ?_) | (with_reducible refine Flow.Both.mk ?_ ?_) | (with_reducible exact True.intro) | (with_reducible refine Flow.same_mk rfl rfl rfl ?_; go_simp; done) | (with_reducible exact Flow.same_un rfl rfl rfl) | (refine Flow.region_still mixed ?hB ?_; (case hB => decide +kernel)))
      obtain ⟨r0, r1, r2⟩ := Blk.three HE.out (.int .i64 0) (.int .i64 0) (.int .i64 0)
      have HW := hid ((show Fr (fun _ => False) w _ from (Fr.refl _ _).alloc _).trans HF.out (fun _ _ h => h))
      exact bodyPost_ret (v := .tuple #[evV none_, .int .i64 2]) (by simp [results, Try.results9, go_sem, evV, none_, r0, r1, r2]) rfl ⟨rfl, (HR.out.fr HW.out (fun _ _ h => h)).fr (S := fun k => k = w.heap.size) (by (repeat' (first | with_reducible exact Fr.refl _ _ | with_reducible apply Fr.alloc | with_reducible apply Fr.drew | with_reducible apply Fr.drewN | (with_reducible refine Fr.setCell ?_ ?_ _))) <;> simp) (fun k hk h => by have := hrl k hk; omega), (HW.out.mono (S2 := R) (fun k _ h => h.elim)).trans (S := R) (S2 := fun k => k = w.heap.size) (by (repeat' (first | with_reducible exact Fr.refl _ _ | with_reducible apply Fr.alloc | with_reducible apply Fr.drew | with_reducible apply Fr.drewN | (with_reducible refine Fr.setCell ?_ ?_ _))) <;> simp) (fun k hk h => absurd hk (by omega))⟩
    · rw [Bool.not_eq_true] at hov
      obtain ⟨ca, cc, hb, _, hm⟩ := hrep
      have hk := (List.getElem?_eq_some_iff.1 ht).1
      obtain ⟨res, hres⟩ : ∃ res, res = go (k : Int) fuel.toNat m.mem m.owner t := ⟨_, rfl⟩
      have e : m.turn k fuel = (⟨m.ths.set k res.2.2.1, res.1, res.2.1⟩, res.2.2.2.1, res.2.2.2.2) := by
        unfold M.turn
        rw [if_pos (by omega)]
        simp [ht, hov, hres]
      rw [e]
      have hev := Blk.new w #[.int .i64 0, .int .i64 0, .int .i64 0] 32
      have HEV := hid hev
      have HB := hid hb
      clear h e h2 hb hm hev
      go_enter Try.func9, Try.ntmps9
      go_wp2_with (first | (go_at_call 17; refine (get_is B ob R ids m _ _ (HR.out.fr (S := fun _ => False) (by (repeat' (first | with_reducible exact Fr.refl _ _ | with_reducible apply Fr.alloc | with_reducible apply Fr.drew | with_reducible apply Fr.drewN | (with_reducible refine Fr.setCell ?_ ?_ _)))) (fun _ _ h => h))).mono ?_; rintro e w1 ⟨rfl, hf⟩; rw [h1]; have HF := hid hf; have b3 : w1.cell? ⟨p.1, 3, none⟩ = some (.bool t.over) := (((HB.out.alloc _).fr hf (fun h => h)).cell 3).trans rfl; rw [hov] at b3; have HE := hid (HEV.out.fr hf (fun h => h)); clear hf HEV) | still_step | (with_reducible refine wpStill_nil ?_) | (with_reducible refine Flow.Both.mk ?_ ?_) | (with_reducible exact True.intro) | (with_reducible refine Flow.same_mk rfl rfl rfl ?_; go_simp; done) | (with_reducible exact Flow.same_un rfl rfl rfl) | (refine Flow.region_still mixed ?hB ?_; (case hB => decide +kernel)))
      rw [run_makeMap]
      simp only [Result.andThen, Oper.upon]
      obtain ⟨w0, hw0⟩ : ∃ w0, w0 = w1.alloc (.map #[] 0) := ⟨_, rfl⟩
      have hm0 : MapF w0 w1.heap.size .i64 (fun _ => none) := by rw [hw0]; exact MapF.made w1 .i64
      have HM := hid (⟨hm0, Fr.refl _ _⟩ : MapF w0 w1.heap.size .i64 (fun _ => none) ∧ Fr (fun x => x = w1.heap.size) w0 w0)
      have HE0 := hid (show Blk w0 w.heap.size #[.int .i64 0, .int .i64 0, .int .i64 0] 32 by rw [hw0]; exact HE.out.alloc _)
      have HF0 := hid (show Fr (fun _ => False) w w0 by rw [hw0]; exact ((show Fr (fun _ => False) w _ from (Fr.refl _ _).alloc _).trans HF.out (fun _ _ h => h)).alloc _)
      have hw1 : w.heap.size < w1.heap.size := HE.out.lt
      rw [← hw0]
      clear hm0 hw0 b3 HF HE
      obtain ⟨N, hN⟩ : ∃ N : Nat, N = fuel.toNat := ⟨_, rfl⟩
      have hmx : ∀ w, (Builtin.max_ #[3, 3] 3 #[.int .i64 fuel, .int .i64 0]).run Try.prog w = .ok (.int .i64 (N : Int)) w := fun w => by rw [hN]; exact run_max0 (P := Try.prog) #[3, 3] 3 fuel w
      have hNb : N < 9223372036854775807 := by omega
      rw [← hN] at hres
      clear hN
      go_wp2_with (first | (refine wpList_insert (n := 11) (u := cloV 18 B) rfl (.tmp 25) (.const (.int .i64 11)) (.tmp 27) (.inl rfl) under_does under_int rfl rfl HM.out.1 rfl ?_; intro wn hm hf; have HM1 := hid (⟨hm, HM.out.2.trans hf (fun _ _ h => h)⟩ : _ ∧ Fr (fun x => x = w1.heap.size) w0 wn); clear HM hm hf; have HM := HM1; clear HM1) | (refine wpList_insert (n := 9) (u := cloV 19 B) rfl (.tmp 25) (.const (.int .i64 9)) (.tmp 29) (.inl rfl) under_does under_int rfl rfl HM.out.1 rfl ?_; intro wn hm hf; have HM1 := hid (⟨hm, HM.out.2.trans hf (fun _ _ h => h)⟩ : _ ∧ Fr (fun x => x = w1.heap.size) w0 wn); clear HM hm hf; have HM := HM1; clear HM1) | (refine wpList_insert (n := 10) (u := cloV 20 B) rfl (.tmp 25) (.const (.int .i64 10)) (.tmp 31) (.inl rfl) under_does under_int rfl rfl HM.out.1 rfl ?_; intro wn hm hf; have HM1 := hid (⟨hm, HM.out.2.trans hf (fun _ _ h => h)⟩ : _ ∧ Fr (fun x => x = w1.heap.size) w0 wn); clear HM hm hf; have HM := HM1; clear HM1) | (refine wpList_insert (n := 12) (u := cloV 21 B) rfl (.tmp 25) (.const (.int .i64 12)) (.tmp 33) (.inl rfl) under_does under_int rfl rfl HM.out.1 rfl ?_; intro wn hm hf; have HM1 := hid (⟨hm, HM.out.2.trans hf (fun _ _ h => h)⟩ : _ ∧ Fr (fun x => x = w1.heap.size) w0 wn); clear HM hm hf; have HM := HM1; clear HM1) | (refine wpList_insert (n := 13) (u := cloV 22 B) rfl (.tmp 25) (.const (.int .i64 13)) (.tmp 35) (.inl rfl) under_does under_int rfl rfl HM.out.1 rfl ?_; intro wn hm hf; have HM1 := hid (⟨hm, HM.out.2.trans hf (fun _ _ h => h)⟩ : _ ∧ Fr (fun x => x = w1.heap.size) w0 wn); clear HM hm hf; have HM := HM1; clear HM1) | still_step | (with_reducible refine wpStill_nil ?_) | (with_reducible refine Flow.Both.mk ?_ ?_) | (with_reducible exact True.intro) | (with_reducible refine Flow.same_mk rfl rfl rfl ?_; go_simp; done) | (with_reducible exact Flow.same_un rfl rfl rfl) | (refine Flow.region_still mixed ?hB ?_; (case hB => decide +kernel)))
      have hset0 : m.ths.set k t = m.ths := by
        apply List.ext_getElem?
        intro j
        rw [List.getElem?_set]
        by_cases hij : k = j
        · subst hij; rw [if_pos rfl, ht]; simp [hk]
        · rw [if_neg hij]
      go_loopw [39] (fun i wr => ∃ (j : Nat) (mem' : List Int) (t' : Th), j ≤ N ∧ i = .int .i64 j ∧ RunRep wr B R ids ob ⟨m.ths.set k t', mem', m.owner⟩ ∧ res = go (k : Int) (N - j) mem' m.owner t' ∧ MapF wr w1.heap.size .i64 (doesF B) ∧
        Blk wr w.heap.size #[.int .i64 0, .int .i64 0, .int .i64 0] 32 ∧ Fr R w wr ∧ w1.heap.size < wr.heap.size) (fun i _ => N - (intOf i).toNat)
      case atStart =>
        have hF := HF0.out.trans (S := fun _ => False) (HM.out.2) (fun k hk e => by omega)
        refine ⟨0, m.mem, t, Nat.zero_le _, rfl, ?_, by simpa using hres, HM.out.1, HE0.out.fr HM.out.2 (by omega), hF.mono (fun k _ h => h.elim), HM.out.1.lt⟩
        rw [hset0]
        exact HR.out.fr hF (fun _ _ h => h)
      case round =>
        obtain ⟨j, mem', t', hj, rfl, hR, hgo, hm, hE, hFr, hwr⟩ := hrel
        have HR1 := hid hR
        have HM1 := hid hm
        have HE1 := hid hE
        have HF1 := hid hFr
        have HG := hid hgo
        clear hR hm hE hFr hgo HM HE0 HF0 HR
        have hk2 : (m.ths.set k t')[k]? = some t' := by simp [hk]
        by_cases hlt : j < N
        · obtain ⟨ins, hins⟩ : ∃ ins, ins = t'.next := ⟨_, rfl⟩
          have hnx := next_is R p.1 p.2 t' wr (HR1.out.ths k p t' hp hk2)
          rw [← hins] at hnx
          obtain ⟨kk, op, d, a, b, n, to⟩ := ins
          dsimp only [insC] at hnx
          go_wp2_with (first | (go_at_call 23; refine hnx.mono ?_; rintro e w2 ⟨rfl, hf⟩; have HF2 := hid hf; clear hf hnx) | still_step | (with_reducible refine wpStill_nil ?_) | (with_reducible refine Flow.Both.mk ?_ ?_) | (with_reducible exact True.intro) | (with_reducible refine Flow.same_mk rfl rfl rfl ?_; go_simp; done) | (with_reducible exact Flow.same_un rfl rfl rfl) | (refine Flow.region_still mixed ?hB ?_; (case hB => decide +kernel)))
          obtain ⟨wb, hwb, hfb⟩ : ∃ wb, wb = w2.alloc (.cells (insC ⟨kk, op, d, a, b, n, to⟩).toArray 42) ∧ Fr (fun _ => False) wr wb := ⟨_, rfl, HF2.out.alloc _⟩
          have hl := run_look under_does under_int (HM1.out.fr hfb (fun h => h)) kk (run_zero zero_does wb) true
          have HRb := hid (HR1.out.fr hfb (fun _ _ h => h))
          have HEb := hid (HE1.out.fr hfb (fun h => h))
          have HMb := hid (HM1.out.fr hfb (fun h => h))
          have HFb := hid (HF1.out.trans (S := R) hfb (fun _ _ h => h.elim))
          have hwz : w1.heap.size < wb.heap.size := Nat.lt_of_lt_of_le hwr hfb.size
          have hbx : Blk wb w2.heap.size (insC ⟨kk, op, d, a, b, n, to⟩).toArray 42 := by rw [hwb]; exact Blk.new w2 _ _
          have HBX := hid hbx
          clear hfb hbx HR1 HM1 HE1 HF1 HF2
          dsimp only [insC] at hwb
          by_cases hkk : kk = 11
          · have hK : kk = 11 := hkk
            subst hK
            cases he : event m.owner (k : Int) t' ⟨11, op, d, a, b, n, to⟩ with
            | none => exact absurd he (by simp [event])
            | some r =>
              obtain ⟨own', t2, ev, x⟩ := r
              have hres2 : res = (mem', own', t2, ev, x) := by
                rw [HG.out, show N - j = (N - j - 1) + 1 by omega]
                unfold go
                rw [← hins, he]
              subst hres2
              simp [doesF, upd, cloV] at hl
              rw [hwb] at hl
              rw [hl]
              simp only [Result.andThen, Oper.upon]
              go_wp2_with (first | (go_at_call 18; rw [← hwb]; refine (event_is B ob k R ids _ p t' ⟨11, op, d, a, b, n, to⟩ (k : Int) wb HRb.out hp hk2 he 18 (by simp)).mono ?_; rintro e w3 ⟨rfl, hR3, hf3⟩; dsimp only [evV]; have HR3 := hid hR3; have HF3 := hid hf3; clear hR3 hf3; have HE3 := hid (HEb.out.fr HF3.out (fun h => by have := hrl _ h; omega)); have q6 := HE3.out.cell 0; have q7 := HE3.out.free 0; have q8 := HE3.out.cell 1; have q9 := HE3.out.free 1; have q10 := HE3.out.cell 2; have q11 := HE3.out.free 2) | still_step | (with_reducible refine wpStill_nil ?_) | (with_reducible refine Flow.Both.mk ?_ ?_) | (with_reducible exact True.intro) | (with_reducible refine Flow.same_mk rfl rfl rfl ?_; go_simp; done) | (with_reducible exact Flow.same_un rfl rfl rfl) | (refine Flow.region_still mixed ?hB ?_; (case hB => decide +kernel)))
              obtain ⟨r0, r1, r2⟩ := Blk.three HE3.out (.int .i64 ev.kind) (.int .i64 ev.thread) (.int .i64 ev.n)
              have HR4 := HR3.out
              rw [List.set_set] at HR4
              exact bodyPost_ret (v := .tuple #[evV ev, .int .i64 x]) (by simp [results, Try.results9, go_sem, evV, r0, r1, r2]) rfl ⟨rfl, HR4.fr (S := fun k => k = w.heap.size) (by (repeat' (first | with_reducible exact Fr.refl _ _ | with_reducible apply Fr.alloc | with_reducible apply Fr.drew | with_reducible apply Fr.drewN | (with_reducible refine Fr.setCell ?_ ?_ _))) <;> simp) (fun k hk h => by have := hrl k hk; omega), (HFb.out.trans (S := R) HF3.out (fun _ _ h => h)).trans (S := R) (S2 := fun k => k = w.heap.size) (by (repeat' (first | with_reducible exact Fr.refl _ _ | with_reducible apply Fr.alloc | with_reducible apply Fr.drew | with_reducible apply Fr.drewN | (with_reducible refine Fr.setCell ?_ ?_ _))) <;> simp) (fun k hk h => absurd hk (by omega))⟩
          by_cases hkk : kk = 9
          · have hK : kk = 9 := hkk
            subst hK
            cases he : event m.owner (k : Int) t' ⟨9, op, d, a, b, n, to⟩ with
            | none => exact absurd he (by simp [event])
            | some r =>
              obtain ⟨own', t2, ev, x⟩ := r
              have hres2 : res = (mem', own', t2, ev, x) := by
                rw [HG.out, show N - j = (N - j - 1) + 1 by omega]
                unfold go
                rw [← hins, he]
              subst hres2
              simp [doesF, upd, cloV] at hl
              rw [hwb] at hl
              rw [hl]
              simp only [Result.andThen, Oper.upon]
              go_wp2_with (first | (go_at_call 19; rw [← hwb]; refine (event_is B ob k R ids _ p t' ⟨9, op, d, a, b, n, to⟩ (k : Int) wb HRb.out hp hk2 he 19 (by simp)).mono ?_; rintro e w3 ⟨rfl, hR3, hf3⟩; dsimp only [evV]; have HR3 := hid hR3; have HF3 := hid hf3; clear hR3 hf3; have HE3 := hid (HEb.out.fr HF3.out (fun h => by have := hrl _ h; omega)); have q6 := HE3.out.cell 0; have q7 := HE3.out.free 0; have q8 := HE3.out.cell 1; have q9 := HE3.out.free 1; have q10 := HE3.out.cell 2; have q11 := HE3.out.free 2) | still_step | (with_reducible refine wpStill_nil ?_) | (with_reducible refine Flow.Both.mk ?_ ?_) | (with_reducible exact True.intro) | (with_reducible refine Flow.same_mk rfl rfl rfl ?_; go_simp; done) | (with_reducible exact Flow.same_un rfl rfl rfl) | (refine Flow.region_still mixed ?hB ?_; (case hB => decide +kernel)))
              obtain ⟨r0, r1, r2⟩ := Blk.three HE3.out (.int .i64 ev.kind) (.int .i64 ev.thread) (.int .i64 ev.n)
              have HR4 := HR3.out
              rw [List.set_set] at HR4
              exact bodyPost_ret (v := .tuple #[evV ev, .int .i64 x]) (by simp [results, Try.results9, go_sem, evV, r0, r1, r2]) rfl ⟨rfl, HR4.fr (S := fun k => k = w.heap.size) (by (repeat' (first | with_reducible exact Fr.refl _ _ | with_reducible apply Fr.alloc | with_reducible apply Fr.drew | with_reducible apply Fr.drewN | (with_reducible refine Fr.setCell ?_ ?_ _))) <;> simp) (fun k hk h => by have := hrl k hk; omega), (HFb.out.trans (S := R) HF3.out (fun _ _ h => h)).trans (S := R) (S2 := fun k => k = w.heap.size) (by (repeat' (first | with_reducible exact Fr.refl _ _ | with_reducible apply Fr.alloc | with_reducible apply Fr.drew | with_reducible apply Fr.drewN | (with_reducible refine Fr.setCell ?_ ?_ _))) <;> simp) (fun k hk h => absurd hk (by omega))⟩
          by_cases hkk : kk = 10
          · have hK : kk = 10 := hkk
            subst hK
            cases he : event m.owner (k : Int) t' ⟨10, op, d, a, b, n, to⟩ with
            | none => exact absurd he (by simp [event])
            | some r =>
              obtain ⟨own', t2, ev, x⟩ := r
              have hres2 : res = (mem', own', t2, ev, x) := by
                rw [HG.out, show N - j = (N - j - 1) + 1 by omega]
                unfold go
                rw [← hins, he]
              subst hres2
              simp [doesF, upd, cloV] at hl
              rw [hwb] at hl
              rw [hl]
              simp only [Result.andThen, Oper.upon]
              go_wp2_with (first | (go_at_call 20; rw [← hwb]; refine (event_is B ob k R ids _ p t' ⟨10, op, d, a, b, n, to⟩ (k : Int) wb HRb.out hp hk2 he 20 (by simp)).mono ?_; rintro e w3 ⟨rfl, hR3, hf3⟩; dsimp only [evV]; have HR3 := hid hR3; have HF3 := hid hf3; clear hR3 hf3; have HE3 := hid (HEb.out.fr HF3.out (fun h => by have := hrl _ h; omega)); have q6 := HE3.out.cell 0; have q7 := HE3.out.free 0; have q8 := HE3.out.cell 1; have q9 := HE3.out.free 1; have q10 := HE3.out.cell 2; have q11 := HE3.out.free 2) | still_step | (with_reducible refine wpStill_nil ?_) | (with_reducible refine Flow.Both.mk ?_ ?_) | (with_reducible exact True.intro) | (with_reducible refine Flow.same_mk rfl rfl rfl ?_; go_simp; done) | (with_reducible exact Flow.same_un rfl rfl rfl) | (refine Flow.region_still mixed ?hB ?_; (case hB => decide +kernel)))
              obtain ⟨r0, r1, r2⟩ := Blk.three HE3.out (.int .i64 ev.kind) (.int .i64 ev.thread) (.int .i64 ev.n)
              have HR4 := HR3.out
              rw [List.set_set] at HR4
              exact bodyPost_ret (v := .tuple #[evV ev, .int .i64 x]) (by simp [results, Try.results9, go_sem, evV, r0, r1, r2]) rfl ⟨rfl, HR4.fr (S := fun k => k = w.heap.size) (by (repeat' (first | with_reducible exact Fr.refl _ _ | with_reducible apply Fr.alloc | with_reducible apply Fr.drew | with_reducible apply Fr.drewN | (with_reducible refine Fr.setCell ?_ ?_ _))) <;> simp) (fun k hk h => by have := hrl k hk; omega), (HFb.out.trans (S := R) HF3.out (fun _ _ h => h)).trans (S := R) (S2 := fun k => k = w.heap.size) (by (repeat' (first | with_reducible exact Fr.refl _ _ | with_reducible apply Fr.alloc | with_reducible apply Fr.drew | with_reducible apply Fr.drewN | (with_reducible refine Fr.setCell ?_ ?_ _))) <;> simp) (fun k hk h => absurd hk (by omega))⟩
          by_cases hkk : kk = 12
          · have hK : kk = 12 := hkk
            subst hK
            cases he : event m.owner (k : Int) t' ⟨12, op, d, a, b, n, to⟩ with
            | none => exact absurd he (by simp [event])
            | some r =>
              obtain ⟨own', t2, ev, x⟩ := r
              have hres2 : res = (mem', own', t2, ev, x) := by
                rw [HG.out, show N - j = (N - j - 1) + 1 by omega]
                unfold go
                rw [← hins, he]
              subst hres2
              simp [doesF, upd, cloV] at hl
              rw [hwb] at hl
              rw [hl]
              simp only [Result.andThen, Oper.upon]
              go_wp2_with (first | (go_at_call 21; rw [← hwb]; refine (event_is B ob k R ids _ p t' ⟨12, op, d, a, b, n, to⟩ (k : Int) wb HRb.out hp hk2 he 21 (by simp)).mono ?_; rintro e w3 ⟨rfl, hR3, hf3⟩; dsimp only [evV]; have HR3 := hid hR3; have HF3 := hid hf3; clear hR3 hf3; have HE3 := hid (HEb.out.fr HF3.out (fun h => by have := hrl _ h; omega)); have q6 := HE3.out.cell 0; have q7 := HE3.out.free 0; have q8 := HE3.out.cell 1; have q9 := HE3.out.free 1; have q10 := HE3.out.cell 2; have q11 := HE3.out.free 2) | still_step | (with_reducible refine wpStill_nil ?_) | (with_reducible refine Flow.Both.mk ?_ ?_) | (with_reducible exact True.intro) | (with_reducible refine Flow.same_mk rfl rfl rfl ?_; go_simp; done) | (with_reducible exact Flow.same_un rfl rfl rfl) | (refine Flow.region_still mixed ?hB ?_; (case hB => decide +kernel)))
              obtain ⟨r0, r1, r2⟩ := Blk.three HE3.out (.int .i64 ev.kind) (.int .i64 ev.thread) (.int .i64 ev.n)
              have HR4 := HR3.out
              rw [List.set_set] at HR4
              exact bodyPost_ret (v := .tuple #[evV ev, .int .i64 x]) (by simp [results, Try.results9, go_sem, evV, r0, r1, r2]) rfl ⟨rfl, HR4.fr (S := fun k => k = w.heap.size) (by (repeat' (first | with_reducible exact Fr.refl _ _ | with_reducible apply Fr.alloc | with_reducible apply Fr.drew | with_reducible apply Fr.drewN | (with_reducible refine Fr.setCell ?_ ?_ _))) <;> simp) (fun k hk h => by have := hrl k hk; omega), (HFb.out.trans (S := R) HF3.out (fun _ _ h => h)).trans (S := R) (S2 := fun k => k = w.heap.size) (by (repeat' (first | with_reducible exact Fr.refl _ _ | with_reducible apply Fr.alloc | with_reducible apply Fr.drew | with_reducible apply Fr.drewN | (with_reducible refine Fr.setCell ?_ ?_ _))) <;> simp) (fun k hk h => absurd hk (by omega))⟩
          by_cases hkk : kk = 13
          · have hK : kk = 13 := hkk
            subst hK
            cases he : event m.owner (k : Int) t' ⟨13, op, d, a, b, n, to⟩ with
            | none => exact absurd he (by simp [event])
            | some r =>
              obtain ⟨own', t2, ev, x⟩ := r
              have hres2 : res = (mem', own', t2, ev, x) := by
                rw [HG.out, show N - j = (N - j - 1) + 1 by omega]
                unfold go
                rw [← hins, he]
              subst hres2
              simp [doesF, upd, cloV] at hl
              rw [hwb] at hl
              rw [hl]
              simp only [Result.andThen, Oper.upon]
              go_wp2_with (first | (go_at_call 22; rw [← hwb]; refine (event_is B ob k R ids _ p t' ⟨13, op, d, a, b, n, to⟩ (k : Int) wb HRb.out hp hk2 he 22 (by simp)).mono ?_; rintro e w3 ⟨rfl, hR3, hf3⟩; dsimp only [evV]; have HR3 := hid hR3; have HF3 := hid hf3; clear hR3 hf3; have HE3 := hid (HEb.out.fr HF3.out (fun h => by have := hrl _ h; omega)); have q6 := HE3.out.cell 0; have q7 := HE3.out.free 0; have q8 := HE3.out.cell 1; have q9 := HE3.out.free 1; have q10 := HE3.out.cell 2; have q11 := HE3.out.free 2) | still_step | (with_reducible refine wpStill_nil ?_) | (with_reducible refine Flow.Both.mk ?_ ?_) | (with_reducible exact True.intro) | (with_reducible refine Flow.same_mk rfl rfl rfl ?_; go_simp; done) | (with_reducible exact Flow.same_un rfl rfl rfl) | (refine Flow.region_still mixed ?hB ?_; (case hB => decide +kernel)))
              obtain ⟨r0, r1, r2⟩ := Blk.three HE3.out (.int .i64 ev.kind) (.int .i64 ev.thread) (.int .i64 ev.n)
              have HR4 := HR3.out
              rw [List.set_set] at HR4
              exact bodyPost_ret (v := .tuple #[evV ev, .int .i64 x]) (by simp [results, Try.results9, go_sem, evV, r0, r1, r2]) rfl ⟨rfl, HR4.fr (S := fun k => k = w.heap.size) (by (repeat' (first | with_reducible exact Fr.refl _ _ | with_reducible apply Fr.alloc | with_reducible apply Fr.drew | with_reducible apply Fr.drewN | (with_reducible refine Fr.setCell ?_ ?_ _))) <;> simp) (fun k hk h => by have := hrl k hk; omega), (HFb.out.trans (S := R) HF3.out (fun _ _ h => h)).trans (S := R) (S2 := fun k => k = w.heap.size) (by (repeat' (first | with_reducible exact Fr.refl _ _ | with_reducible apply Fr.alloc | with_reducible apply Fr.drew | with_reducible apply Fr.drewN | (with_reducible refine Fr.setCell ?_ ?_ _))) <;> simp) (fun k hk h => absurd hk (by omega))⟩
          · have he : event m.owner (k : Int) t' ⟨kk, op, d, a, b, n, to⟩ = none := event_none ⟨by assumption, by assumption, by assumption, by assumption, by assumption⟩
            have hg2 : res = go (k : Int) (N - (j + 1)) (plain mem' t' ⟨kk, op, d, a, b, n, to⟩).1 m.owner (plain mem' t' ⟨kk, op, d, a, b, n, to⟩).2 := by
              rw [HG.out, show N - j = (N - (j + 1)) + 1 by omega]
              conv => lhs; unfold go
              rw [← hins, he]
            obtain ⟨pp, hpp⟩ : ∃ pp, pp = plain mem' t' ⟨kk, op, d, a, b, n, to⟩ := ⟨_, rfl⟩
            have hpl := plain_is B ob k R ids _ p t' ⟨kk, op, d, a, b, n, to⟩ wb HRb.out hp hk2
            dsimp only at hpl
            rw [← hpp] at hg2 hpl
            rw [List.set_set] at hpl
            have HG2 := hid hg2
            have hl2 : doesF B kk = none := by unfold doesF upd; simp [*]
            rw [hl2] at hl
            simp at hl
            rw [hwb] at hl
            rw [hl]
            simp only [Result.andThen, Oper.upon]
            clear hg2 HG hl hl2 hpp hins he
            have HPL := hid hpl
            clear hpl
            go_wp2_with (first | (go_at_call 24; rw [← hwb]; refine HPL.out.mono ?_; rintro e w3 ⟨rfl, hR3, hf3⟩; have HR3 := hid hR3; have HF3 := hid hf3; clear hR3 hf3) | still_step | (with_reducible refine wpStill_nil ?_) | (with_reducible refine Flow.Both.mk ?_ ?_) | (with_reducible exact True.intro) | (with_reducible refine Flow.same_mk rfl rfl rfl ?_; go_simp; done) | (with_reducible exact Flow.same_un rfl rfl rfl) | (refine Flow.region_still mixed ?hB ?_; (case hB => decide +kernel)))
            go_roundw
            case rel =>
              exact ⟨j + 1, pp.1, pp.2, by omega, by go_num, HR3.out, HG2.out, HMb.out.fr HF3.out (fun h => by have := hrl _ h; omega), HEb.out.fr HF3.out (fun h => by have := hrl _ h; omega), HFb.out.trans (S := R) HF3.out (fun _ _ h => h), Nat.lt_of_lt_of_le hwz HF3.out.size⟩
            case measure => simp [intOf]; omega
        · obtain rfl : j = N := by omega
          have hres2 : res = (mem', m.owner, t', none_, 3) := by rw [HG.out, Nat.sub_self]; rfl
          subst hres2
          have q6 := HE1.out.cell 0; have q7 := HE1.out.free 0; have q8 := HE1.out.cell 1; have q9 := HE1.out.free 1; have q10 := HE1.out.cell 2; have q11 := HE1.out.free 2
          go_wp2_with (first | fail | still_step | (with_reducible refine wpStill_nil ?_) | (with_reducible refine Flow.Both.mk ?_ ?_) | (with_reducible exact True.intro) | (with_reducible refine Flow.same_mk rfl rfl rfl ?_; go_simp; done) | (with_reducible exact Flow.same_un rfl rfl rfl) | (refine Flow.region_still mixed ?hB ?_; (case hB => decide +kernel)))
          obtain ⟨r0, r1, r2⟩ := Blk.three HE1.out (.int .i64 0) (.int .i64 0) (.int .i64 0)
          exact bodyPost_ret (v := .tuple #[evV none_, .int .i64 3]) (by simp [results, Try.results9, go_sem, evV, none_, r0, r1, r2]) rfl ⟨rfl, HR1.out.fr (S := fun k => k = w.heap.size) (by (repeat' (first | with_reducible exact Fr.refl _ _ | with_reducible apply Fr.alloc | with_reducible apply Fr.drew | with_reducible apply Fr.drewN | (with_reducible refine Fr.setCell ?_ ?_ _))) <;> simp) (fun k hk h => by have := hrl k hk; omega), HF1.out.trans (S := R) (S2 := fun k => k = w.heap.size) (by (repeat' (first | with_reducible exact Fr.refl _ _ | with_reducible apply Fr.alloc | with_reducible apply Fr.drew | with_reducible apply Fr.drewN | (with_reducible refine Fr.setCell ?_ ?_ _))) <;> simp) (fun k hk h => absurd hk (by omega))⟩
end Go.Proofs.Ytokmdjpaegaojaa.Seq
