/-
  The reference of layer 27, and whether the waiting stores are its stores.
-/
import Derived.Test.YtkpbojddahddnaaBuf5
namespace Go.Proofs.Ytkpbojddahddnaa
open Go.RowKit
attribute [local irreducible] wpStill wpList Calls CallsIn

theorem getL_back (l : List (Int × Int)) (at' : Int) (m : Nat) (hm : m < l.length) : getL (l.take (m + 1)) at' = if l[m].1 = at' then (l[m].2, true) else getL (l.take m) at' := by
  unfold getL
  rw [List.take_succ_eq_append_getElem hm, List.reverse_append]
  simp only [List.reverse_cons, List.reverse_nil, List.nil_append, List.singleton_append, List.find?_cons]
  by_cases h : l[m].1 = at'
  · simp [h]
  · have hb : (l[m].1 == at') = false := by simpa using h
    simp [h, hb]

set_option maxHeartbeats 400000 in
theorem rget_all (R : Nat → Prop) (ao : Option Addr) (cap : Nat) (l : List (Int × Int)) (at' : Int) (w : World) (hv : Vw w 2 R ao l.length (ent l)) (hlen : l.length ≤ 9223372036854775807) :
    Calls Try.prog 12 #[.slice ao l.length cap, .int .i64 at'] w fun e w' => e = .returned (.tuple #[.int .i64 (getL l at').1, .bool (getL l at').2]) ∧ w = w' := by
  have HV := hid hv
  clear hv
  go_enter Try.func12, Try.ntmps12
  go_wp2_with (first | fail | still_step | (with_reducible refine wpStill_nil ?_) | (with_reducible refine Flow.Both.mk ?_ ?_) | (with_reducible exact True.intro) | (with_reducible refine Flow.same_mk rfl rfl rfl ?_; go_simp; done) | (refine Flow.region_still mixed ?hB ?_; (case hB => decide +kernel)))
  go_loopw [6] (fun i wr => ∃ m : Nat, m ≤ l.length ∧ i = .int .i64 ((m : Int) - 1) ∧ getL (l.take m) at' = getL l at' ∧ wr = w) (fun i _ => (intOf i + 1).toNat)
  case atStart => exact ⟨l.length, Nat.le_refl _, rfl, by rw [List.take_length], rfl⟩
  case round =>
    obtain ⟨m, hm, hi, hg, rfl⟩ := hrel
    cases m with
    | zero =>
      subst hi
      have HG := hid hg
      clear hg
      go_wp2_with (first | fail | still_step | (with_reducible refine wpStill_nil ?_) | (with_reducible refine Flow.Both.mk ?_ ?_) | (with_reducible exact True.intro) | (with_reducible refine Flow.same_mk rfl rfl rfl ?_; go_simp; done) | (refine Flow.region_still mixed ?hB ?_; (case hB => decide +kernel)))
      go_ret2
      refine ⟨?_, rfl⟩
      rw [← HG.out]
      rfl
    | succ m =>
      rw [show ((m + 1 : Nat) : Int) - 1 = (m : Int) by omega] at hi
      subst hi
      have hlt : m < l.length := by omega
      rw [getL_back l at' m hlt] at hg
      have hne : ent l ≠ [] := fun h => by rw [ent_nil_of] at h; subst h; simp at hlt
      obtain ⟨r, off, rfl, _, hc⟩ := HV.out.cell hne
      have c0 := hc (m * 2) _ (ent_get l m hlt).1
      have c1 : wr.cell? ⟨r, off + m * 2 + 1, none⟩ = some (.int .i64 l[m].2) := hc (m * 2 + 1) _ (ent_get l m hlt).2
      clear hc hne
      by_cases hx : l[m].1 = at'
      · rw [if_pos hx] at hg
        have HG := hid hg
        have hxb : (l[m].1 == at') = true := by simpa using hx
        clear hg hx
        go_wp2_with (first | fail | still_step | (with_reducible refine wpStill_nil ?_) | (with_reducible refine Flow.Both.mk ?_ ?_) | (with_reducible exact True.intro) | (with_reducible refine Flow.same_mk rfl rfl rfl ?_; go_simp; done) | (refine Flow.region_still mixed ?hB ?_; (case hB => decide +kernel)))
        go_ret2
        refine ⟨?_, rfl⟩
        rw [← HG.out]
        rfl
      · rw [if_neg hx] at hg
        have HG := hid hg
        have hxb : (l[m].1 == at') = false := by simpa using hx
        clear hg hx
        go_wp2_with (first | fail | still_step | (with_reducible refine wpStill_nil ?_) | (with_reducible refine Flow.Both.mk ?_ ?_) | (with_reducible exact True.intro) | (with_reducible refine Flow.same_mk rfl rfl rfl ?_; go_simp; done) | (refine Flow.region_still mixed ?hB ?_; (case hB => decide +kernel)))
        go_roundw
        case rel => exact ⟨m, by omega, rfl, HG.out, trivial⟩
        case measure => simp [intOf]

theorem infoTI : (Try.prog.info? 2).map (fun i => (i.zero, i.size, i.bytes)) = some (some (.int .i64 0), 1, 8) := by kernel_rfl

set_option maxHeartbeats 800000 in
theorem rput_all (R : Nat → Prop) (ao : Option Addr) (cap : Nat) (mem : List Int) (x y : Int) (w : World) (hv : Vw w 1 R ao mem.length (ints mem)) (hlen : mem.length * 8 ≤ 140737488355328) :
    Calls Try.prog 16 #[.slice ao mem.length cap, .agg #[.int .i64 x, .int .i64 y]] w fun e w' => ∃ ao' cap', e = .returned (.slice ao' mem.length cap') ∧ OwnAt w' 2 1 (fun k => w.heap.size ≤ k) ao' mem.length cap' (ints (putL mem (x, y))) ∧ Fr (fun _ => False) w w' := by
  obtain ⟨i0, hi, hz0, hz1, hz2⟩ := info_parts infoTI
  have HV := hid hv
  clear hv
  have HL := hid hlen
  clear hlen
  go_enter Try.func16, Try.ntmps16
  go_wp2_with (first | (at_builtin; refine wpList_append_Own _ rfl (.tmp 6) (.tmp 7) 23 rfl 2 i0 (.int .i64 0) 1 8 Try.underlying23 hi hz0 hz1 hz2 rfl (by decide) (fun _ => False) R none 0 0 [] rfl (OwnAt.nil _ _ _ _ _) ao mem.length cap (ints mem) rfl (HV.out.fr (S := fun _ => False) (by (repeat' (first | with_reducible exact Fr.refl _ _ | with_reducible apply Fr.alloc | with_reducible apply Fr.drew | with_reducible apply Fr.drewN | (with_reducible refine Fr.setCell ?_ ?_ _)))) (fun _ _ h => h)) (ints_one _) ?b1 ?b2 ?grow) | still_step | (with_reducible refine wpStill_nil ?_) | (with_reducible refine Flow.Both.mk ?_ ?_) | (with_reducible exact True.intro) | (with_reducible refine Flow.same_mk rfl rfl rfl ?_; go_simp; done) | (refine Flow.region_still mixed ?hB ?_; (case hB => decide +kernel)))
  case b1 => unfold maxLen; have := HL.out; omega
  case b2 => have := HL.out; omega
  case grow =>
    intro ao' cap' w1 ho1 hf1
    have hlt1 : w.heap.size < w1.heap.size := by have := hf1.size; simp at this; omega
    have k0 := (Blk.new w #[.int .i64 x, .int .i64 y] 33).fr hf1 (fun h => h)
    have b0 := k0.cell 0
    have b1 := k0.cell 1
    simp at b0 b1
    have HF1 := hid ((show Fr (fun _ => False) w _ by (repeat' (first | with_reducible exact Fr.refl _ _ | with_reducible apply Fr.alloc | with_reducible apply Fr.drew | with_reducible apply Fr.drewN | (with_reducible refine Fr.setCell ?_ ?_ _)))).trans hf1 (fun _ _ h => h))
    have ho2 := ho1.mono (R2 := fun k => w.heap.size ≤ k ∧ k ≠ w.heap.size) (fun k _ h => by (first | omega | (dsimp only at h ⊢; omega) | (dsimp only at h; omega) | (dsimp only; omega) | (simp at h ⊢; omega) | (simp at h; omega) | (rcases h with h | h <;> first | exact h.elim | (dsimp only at h ⊢; omega) | (dsimp only at h; omega) | omega)))
    clear hf1 k0 ho1
    by_cases h1 : 0 ≤ x
    · by_cases h2 : x < (mem.length : Int)
      · obtain ⟨r1, off1, rfl, hr1, hfz, ⟨u, hu⟩, hown, hfr⟩ := ho2.set1 (i := x.toNat) (by omega) (.int .i64 y)
        have hr1l := World.block_lt_of_cell? _ _ hu
        dsimp only at hr1l
        have hrne : r1 ≠ w.heap.size := hr1.2
        have HOW := hid hown
        have HFW := hid hfr
        clear hown hfr ho2
        go_wp2_with (first | fail | still_step | (with_reducible refine wpStill_nil ?_) | (with_reducible refine Flow.Both.mk ?_ ?_) | (with_reducible exact True.intro) | (with_reducible refine Flow.same_mk rfl rfl rfl ?_; go_simp; done) | (refine Flow.region_still mixed ?hB ?_; (case hB => decide +kernel)))
        go_ret
        refine ⟨_, _, rfl, ?_, HF1.out.trans HFW.out (fun k hk e => by subst e; have := hr1.1; omega)⟩
        rw [putL, if_pos ⟨h1, h2⟩, ← ints_set]
        exact HOW.out.mono (fun k _ h => h.1)
      · have HO2 := hid ho2
        clear ho2
        go_wp2_with (first | fail | still_step | (with_reducible refine wpStill_nil ?_) | (with_reducible refine Flow.Both.mk ?_ ?_) | (with_reducible exact True.intro) | (with_reducible refine Flow.same_mk rfl rfl rfl ?_; go_simp; done) | (refine Flow.region_still mixed ?hB ?_; (case hB => decide +kernel)))
        go_ret
        refine ⟨_, _, rfl, ?_, HF1.out⟩
        rw [putL, if_neg (by omega)]
        exact HO2.out.mono (fun k _ h => h.1)
    · have h1' : decide (0 ≤ x) = false := by simp; omega
      have HO2 := hid ho2
      clear ho2
      go_wp2_with (first | fail | still_step | (with_reducible refine wpStill_nil ?_) | (with_reducible refine Flow.Both.mk ?_ ?_) | (with_reducible exact True.intro) | (with_reducible refine Flow.same_mk rfl rfl rfl ?_; go_simp; done) | (refine Flow.region_still mixed ?hB ?_; (case hB => decide +kernel)))
      go_ret
      refine ⟨_, _, rfl, ?_, HF1.out⟩
      rw [putL, if_neg (by omega)]
      exact HO2.out.mono (fun k _ h => h.1)

theorem rput_n (R : Nat → Prop) (ao : Option Addr) (cap n : Nat) (mem : List Int) (x y : Int) (w : World) (hn : mem.length = n) (hv : Vw w 1 R ao n (ints mem)) (hlen : n * 8 ≤ 140737488355328) :
    Calls Try.prog 16 #[.slice ao n cap, .agg #[.int .i64 x, .int .i64 y]] w fun e w' => ∃ ao' cap', e = .returned (.slice ao' n cap') ∧ OwnAt w' 2 1 (fun k => w.heap.size ≤ k) ao' n cap' (ints (putL mem (x, y))) ∧ Fr (fun _ => False) w w' := by
  subst hn
  exact rput_all R ao cap mem x y w hv hlen

set_option maxHeartbeats 800000 in
theorem ronto_all (R Rm : Nat → Prop) (ao am : Option Addr) (cap cm : Nat) (l : List (Int × Int)) (mem : List Int) (w : World) (hv : Vw w 2 R ao l.length (ent l)) (hR : ∀ k, R k → k < w.heap.size) (hlen : l.length ≤ 9223372036854775807) (hm : Vw w 1 Rm am mem.length (ints mem)) (hml : mem.length * 8 ≤ 140737488355328) :
    Calls Try.prog 15 #[.slice ao l.length cap, .slice am mem.length cm] w fun e w' => ∃ ao' cap', e = .returned (.slice ao' mem.length cap') ∧ OwnAt w' 2 1 (fun k => w.heap.size ≤ k) ao' mem.length cap' (ints (ontoL mem l)) ∧ Fr (fun _ => False) w w' := by
  obtain ⟨i0, hi, hz0, hz1, hz2⟩ := info_parts infoTI
  have HV := hid hv
  have HM := hid hm
  have HL := hid hml
  have HR := hid hR
  clear hv hm hml hR
  go_enter Try.func15, Try.ntmps15
  go_wp2_with (first | (at_builtin; refine wpList_append_Own _ rfl (.tmp 7) (.tmp 8) 23 rfl 2 i0 (.int .i64 0) 1 8 Try.underlying23 hi hz0 hz1 hz2 rfl (by decide) (fun _ => False) Rm none 0 0 [] rfl (OwnAt.nil _ _ _ _ _) am mem.length cm (ints mem) rfl HM.out (ints_one _) ?b1 ?b2 ?grow) | still_step | (with_reducible refine wpStill_nil ?_) | (with_reducible refine Flow.Both.mk ?_ ?_) | (with_reducible exact True.intro) | (with_reducible refine Flow.same_mk rfl rfl rfl ?_; go_simp; done) | (refine Flow.region_still mixed ?hB ?_; (case hB => decide +kernel)))
  case b1 => unfold maxLen; have := HL.out; omega
  case b2 => have := HL.out; omega
  case grow =>
    intro ao' cap' w1 ho1 hf1
    have HO1 := hid (ho1.mono (R2 := fun k => w.heap.size ≤ k) (fun k _ h => by (first | omega | (dsimp only at h ⊢; omega) | (dsimp only at h; omega) | (dsimp only; omega) | (simp at h ⊢; omega) | (simp at h; omega) | (rcases h with h | h <;> first | exact h.elim | (dsimp only at h ⊢; omega) | (dsimp only at h; omega) | omega))))
    have HF1 := hid hf1
    clear ho1 hf1
    go_wp2_with (first | fail | still_step | (with_reducible refine wpStill_nil ?_) | (with_reducible refine Flow.Both.mk ?_ ?_) | (with_reducible exact True.intro) | (with_reducible refine Flow.same_mk rfl rfl rfl ?_; go_simp; done) | (refine Flow.region_still mixed ?hB ?_; (case hB => decide +kernel)))
    go_loopw [5, 6] (fun v i wr => ∃ k : Nat, k ≤ l.length ∧ i = .int .i64 k ∧ (∃ a c, v = .slice a mem.length c ∧ OwnAt wr 2 1 (fun k => w.heap.size ≤ k) a mem.length c (ints (ontoL mem (l.take k)))) ∧ Fr (fun _ => False) w wr) (fun _ i _ => l.length - (intOf i).toNat)
    case atStart => exact ⟨0, Nat.zero_le _, rfl, ⟨_, _, rfl, HO1.out⟩, HF1.out⟩
    case round =>
      obtain ⟨k, hk, rfl, ⟨a2, c2, rfl, ho⟩, hf⟩ := hrel
      have HO := hid ho
      have HF := hid hf
      clear ho hf
      by_cases hlt : k < l.length
      · have hne : ent l ≠ [] := fun h => by rw [ent_nil_of] at h; subst h; simp at hlt
        obtain ⟨r, off, rfl, _, hc⟩ := (HV.out.fr HF.out (fun _ _ h => h)).cell hne
        have d0 := hc (k * 2) _ (ent_get l k hlt).1
        have d1 : wr.cell? ⟨r, off + k * 2 + 1, none⟩ = some (.int .i64 l[k].2) := hc (k * 2 + 1) _ (ent_get l k hlt).2
        have hs : ontoL mem (l.take (k + 1)) = putL (ontoL mem (l.take k)) (l[k].1, l[k].2) := by rw [List.take_succ_eq_append_getElem hlt, ontoL_snoc]
        have HS := hid hs
        have hml2 : (ontoL mem (l.take k)).length = mem.length := ontoL_length _ _
        have HML := hid hml2
        clear hc hne hs hml2
        go_wp2_with (first | (go_at_call 16; refine (rput_n (fun k => w.heap.size ≤ k) a2 c2 mem.length (ontoL mem (l.take k)) _ _ _ HML.out HO.out.vw HL.out).mono ?_; rintro e w3 ⟨a3, c3, rfl, ho3, hf3⟩; have HO3 := hid ho3; have HF3 := hid hf3; clear ho3 hf3) | still_step | (with_reducible refine wpStill_nil ?_) | (with_reducible refine Flow.Both.mk ?_ ?_) | (with_reducible exact True.intro) | (with_reducible refine Flow.same_mk rfl rfl rfl ?_; go_simp; done) | (refine Flow.region_still mixed ?hB ?_; (case hB => decide +kernel)))
        go_roundw
        case rel =>
          refine ⟨k + 1, by omega, by go_num, ⟨_, _, rfl, ?_⟩, HF.out.trans HF3.out (fun _ _ h => h)⟩
          rw [HS.out]
          exact HO3.out.mono (fun k _ h => by have := HF.out.size; (first | omega | (dsimp only at h ⊢; omega) | (dsimp only at h; omega) | (dsimp only; omega) | (simp at h ⊢; omega) | (simp at h; omega) | (rcases h with h | h <;> first | exact h.elim | (dsimp only at h ⊢; omega) | (dsimp only at h; omega) | omega)))
        case measure => simp [intOf]; omega
      · obtain rfl : k = l.length := by omega
        go_wp2_with (first | fail | still_step | (with_reducible refine wpStill_nil ?_) | (with_reducible refine Flow.Both.mk ?_ ?_) | (with_reducible exact True.intro) | (with_reducible refine Flow.same_mk rfl rfl rfl ?_; go_simp; done) | (refine Flow.region_still mixed ?hB ?_; (case hB => decide +kernel)))
        go_ret
        have h := HO.out
        rw [List.take_length] at h
        exact ⟨_, _, rfl, h, HF.out⟩

set_option maxHeartbeats 800000 in
theorem same_true (b : Nat) (R R2 : Nat → Prop) (room : Nat) (l : List (Int × Int)) (ao : Option Addr) (cap : Nat) (w : World) (hb : BufRep w b R room l) (hv : Vw w 2 R2 ao l.length (ent l)) :
    Calls Try.prog 13 #[.pointer (some ⟨b, 0, none⟩), .slice ao l.length cap] w fun e w' => e = .returned (.bool true) ∧ Fr (fun _ => False) w w' := by
  have HB := hid hb
  have HV := hid hv
  have hl2 := hb.2.1
  have hl3 := hb.2.2.1
  clear hb hv
  go_enter Try.func13, Try.ntmps13
  go_wp2_with (first | (go_at_call 19; refine (all_yes b R room l _ HB.out).mono ?_; rintro e w1 ⟨ab, cb, rfl, ho, hf⟩; have HO := hid ho; have HF := hid hf; clear ho hf) | (go_at_call 17; refine (len_yes b R room l _ (HB.out.fr HF.out (fun h => h) (fun _ _ h => h))).mono ?_; rintro e w' ⟨rfl, rfl⟩) | still_step | (with_reducible refine wpStill_nil ?_) | (with_reducible refine Flow.Both.mk ?_ ?_) | (with_reducible exact True.intro) | (with_reducible refine Flow.same_mk rfl rfl rfl ?_; go_simp; done) | (refine Flow.region_still mixed ?hB ?_; (case hB => decide +kernel)))
  go_loopw [6] (fun i wr => ∃ k : Nat, k ≤ l.length ∧ i = .int .i64 k ∧ Fr (fun _ => False) w1 wr) (fun i _ => l.length - (intOf i).toNat)
  case atStart => exact ⟨0, Nat.zero_le _, rfl, Fr.refl _ _⟩
  case round =>
    obtain ⟨k, hk, rfl, hf⟩ := hrel
    have HF2 := hid hf
    clear hf
    by_cases hlt : k < l.length
    · have hne : ent l ≠ [] := fun h => by rw [ent_nil_of] at h; subst h; simp at hlt
      obtain ⟨r, off, rfl, _, hc⟩ := ((HV.out.fr HF.out (fun _ _ h => h)).fr HF2.out (fun _ _ h => h)).cell hne
      have d0 := hc (k * 2) _ (ent_get l k hlt).1
      have d1 : wr.cell? ⟨r, off + k * 2 + 1, none⟩ = some (.int .i64 l[k].2) := hc (k * 2 + 1) _ (ent_get l k hlt).2
      obtain ⟨r2, off2, rfl, _, hc2⟩ := (HO.out.fr HF2.out (fun _ _ h => h)).vw.cell hne
      have e0 := hc2 (k * 2) _ (ent_get l k hlt).1
      have e1 : wr.cell? ⟨r2, off2 + k * 2 + 1, none⟩ = some (.int .i64 l[k].2) := hc2 (k * 2 + 1) _ (ent_get l k hlt).2
      clear hc hc2 hne
      generalize l[k].1 = x at *
      generalize l[k].2 = y at *
      go_wp2_with (first | fail | still_step | (with_reducible refine wpStill_nil ?_) | (with_reducible refine Flow.Both.mk ?_ ?_) | (with_reducible exact True.intro) | (with_reducible refine Flow.same_mk rfl rfl rfl ?_; go_simp; done) | (refine Flow.region_still mixed ?hB ?_; (case hB => decide +kernel)))
      go_roundw
      case rel => exact ⟨k + 1, by omega, by go_num, HF2.out.drew⟩
      case measure => simp [intOf]; omega
    · obtain rfl : k = l.length := by omega
      go_wp2_with (first | fail | still_step | (with_reducible refine wpStill_nil ?_) | (with_reducible refine Flow.Both.mk ?_ ?_) | (with_reducible exact True.intro) | (with_reducible refine Flow.same_mk rfl rfl rfl ?_; go_simp; done) | (refine Flow.region_still mixed ?hB ?_; (case hB => decide +kernel)))
      go_ret
      exact ⟨rfl, HF.out.trans HF2.out (fun _ _ h => h)⟩

end Go.Proofs.Ytkpbojddahddnaa
