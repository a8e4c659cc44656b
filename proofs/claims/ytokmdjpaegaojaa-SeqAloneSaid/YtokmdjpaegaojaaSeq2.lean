/-
  What Place, Reg and Owner of package seq tell.
-/
import Derived.Test.YtokmdjpaegaojaaSeqW
namespace Go.Proofs.Ytokmdjpaegaojaa.Seq
open Go.RowKit
attribute [local irreducible] wpStill wpList Calls CallsIn

def M.th (m : M) (who : Int) : Option Th := if 0 ≤ who ∧ who < m.ths.length then m.ths[who.toNat]? else none
def M.place (m : M) (who : Int) : Int := match m.th who with | some t => t.at_ | none => 0
def M.reg (m : M) (who n : Int) : Int := match m.th who with | some t => t.get n | none => 0

theorem th_cases {w : World} {B ob : Nat} {R : Nat → Prop} {ids : List (Nat × Nat)} {m : M} (h : RunRep w B R ids ob m) (who : Int) :
    (thPtr ids who = none ∧ m.th who = none) ∨ ∃ (k : Nat) (p : Nat × Nat) (t : Th), who = k ∧ ids[k]? = some p ∧ m.ths[k]? = some t ∧ thPtr ids who = some ⟨p.1, 0, none⟩ ∧ m.th who = some t ∧ ThRep w R p.1 p.2 t := by
  have hl := h.len
  by_cases hw : 0 ≤ who ∧ who < ids.length
  · obtain ⟨k, rfl⟩ : ∃ k : Nat, who = k := ⟨who.toNat, by omega⟩
    have hk : k < ids.length := by omega
    have hk2 : k < m.ths.length := by omega
    have e1 : ids[k]? = some ids[k] := by simp [hk]
    have e2 : m.ths[k]? = some m.ths[k] := by simp [hk2]
    refine .inr ⟨k, ids[k], m.ths[k], rfl, e1, e2, ?_, ?_, h.ths k _ _ e1 e2⟩
    · unfold thPtr; rw [if_pos hw]; simp [hk]
    · unfold M.th; rw [if_pos (by omega)]; simp [hk2]
  · refine .inl ⟨?_, ?_⟩
    · unfold thPtr; rw [if_neg hw]
    · unfold M.th; rw [if_neg (by omega)]

theorem place_is (B ob : Nat) (R : Nat → Prop) (ids : List (Nat × Nat)) (m : M) (who : Int) (w : World) (h : RunRep w B R ids ob m) :
    Calls Try.prog 12 #[.pointer (some ⟨B, 0, none⟩), .int .i64 who] w fun e w' => e = .returned (.int .i64 (m.place who)) ∧ Fr (fun _ => False) w w' := by
  have HR := hid h
  rcases th_cases h who with ⟨h1, h2⟩ | ⟨k, p, t, rfl, _, _, h1, h2, ht⟩
  · have e : m.place who = 0 := by unfold M.place; rw [h2]
    rw [e]
    clear h e h2
    go_enter Try.func12, Try.ntmps12
    go_wp2_with (first | (go_at_call 17; refine (get_is B ob R ids m _ _ HR.out).mono ?_; rintro e w1 ⟨rfl, hf⟩; rw [h1]; have HF := hid hf; clear hf) | still_step | (with_reducible refine wpStill_nil ?_) | (with_reducible refine Flow.Both.mk ?_ ?_) | (with_reducible exact True.intro) | (with_reducible refine Flow.same_mk rfl rfl rfl ?_; go_simp; done) | (with_reducible exact Flow.same_un rfl rfl rfl) | (refine Flow.region_still mixed ?hB ?_; (case hB => decide +kernel)))
    go_ret
    exact ⟨rfl, HF.out⟩
  · have e : m.place k = t.at_ := by unfold M.place; rw [h2]
    rw [e]
    obtain ⟨ca, cc, hb, _, _⟩ := ht
    have HB := hid hb
    clear h e h2 hb
    go_enter Try.func12, Try.ntmps12
    go_wp2_with (first | (go_at_call 17; refine (get_is B ob R ids m _ _ HR.out).mono ?_; rintro e w1 ⟨rfl, hf⟩; rw [h1]; have HF := hid hf; have b1 : w1.cell? ⟨p.1, 1, none⟩ = some (.int .i64 t.at_) := ((HB.out.fr hf (fun h => h)).cell 1).trans rfl; clear hf) | still_step | (with_reducible refine wpStill_nil ?_) | (with_reducible refine Flow.Both.mk ?_ ?_) | (with_reducible exact True.intro) | (with_reducible refine Flow.same_mk rfl rfl rfl ?_; go_simp; done) | (with_reducible exact Flow.same_un rfl rfl rfl) | (refine Flow.region_still mixed ?hB ?_; (case hB => decide +kernel)))
    go_ret
    exact ⟨rfl, HF.out⟩

theorem reg_is (B ob : Nat) (R : Nat → Prop) (ids : List (Nat × Nat)) (m : M) (who n : Int) (w : World) (h : RunRep w B R ids ob m) :
    Calls Try.prog 13 #[.pointer (some ⟨B, 0, none⟩), .int .i64 who, .int .i64 n] w fun e w' => e = .returned (.int .i64 (m.reg who n)) ∧ Fr (fun _ => False) w w' := by
  have HR := hid h
  rcases th_cases h who with ⟨h1, h2⟩ | ⟨k, p, t, rfl, _, _, h1, h2, ht⟩
  · have e : m.reg who n = 0 := by unfold M.reg; rw [h2]
    rw [e]
    clear h e h2
    go_enter Try.func13, Try.ntmps13
    go_wp2_with (first | (go_at_call 17; refine (get_is B ob R ids m _ _ HR.out).mono ?_; rintro e w1 ⟨rfl, hf⟩; rw [h1]; have HF := hid hf; clear hf) | still_step | (with_reducible refine wpStill_nil ?_) | (with_reducible refine Flow.Both.mk ?_ ?_) | (with_reducible exact True.intro) | (with_reducible refine Flow.same_mk rfl rfl rfl ?_; go_simp; done) | (with_reducible exact Flow.same_un rfl rfl rfl) | (refine Flow.region_still mixed ?hB ?_; (case hB => decide +kernel)))
    go_ret
    exact ⟨rfl, HF.out⟩
  · have e : m.reg k n = t.get n := by unfold M.reg; rw [h2]
    rw [e]
    obtain ⟨ca, cc, hb, _, hm⟩ := ht
    have HB := hid hb
    have HM := hid hm
    have hz : ((regC t.regs) n).getD (.int .i64 0) = .int .i64 (t.get n) := by unfold regC Th.get; cases t.regs n <;> rfl
    have HZ := hid hz
    clear h e h2 hb hm hz
    go_enter Try.func13, Try.ntmps13
    go_wp2_with (first | (go_at_call 17; refine (get_is B ob R ids m _ _ HR.out).mono ?_; rintro e w1 ⟨rfl, hf⟩; rw [h1]; have HF := hid hf; have b1 : w1.cell? ⟨p.1, 2, none⟩ = some (.map (some p.2)) := ((HB.out.fr hf (fun h => h)).cell 2).trans rfl; have hl := run_look under_regs under_int (HM.out.fr hf (fun h => h)) n (run_zero zero_i64 w1) false; simp only [HZ.out, Bool.false_eq_true, if_false] at hl; clear hf) | still_step | (with_reducible refine wpStill_nil ?_) | (with_reducible refine Flow.Both.mk ?_ ?_) | (with_reducible exact True.intro) | (with_reducible refine Flow.same_mk rfl rfl rfl ?_; go_simp; done) | (with_reducible exact Flow.same_un rfl rfl rfl) | (refine Flow.region_still mixed ?hB ?_; (case hB => decide +kernel)))
    go_ret
    exact ⟨rfl, HF.out⟩

theorem owner_is (B ob : Nat) (R : Nat → Prop) (ids : List (Nat × Nat)) (m : M) (n : Int) (w : World) (h : RunRep w B R ids ob m) :
    Calls Try.prog 14 #[.pointer (some ⟨B, 0, none⟩), .int .i64 n] w fun e w' => e = .returned (.int .i64 ((m.owner n).getD (-1))) ∧ Fr (fun _ => False) w w' := by
  obtain ⟨ta, tc, ma, mc, hb, _, _⟩ := h.head
  have b2 : w.cell? ⟨B, 2, none⟩ = some (.map (some ob)) := (hb.cell 2).trans rfl
  have hl := run_look under_own under_i64 h.own n (run_zero zero_int w) true
  have hl2 := run_look under_own under_i64 (h.own.fr (w1 := w.drew) (S := fun _ => False) (by (repeat' (first | with_reducible exact Fr.refl _ _ | with_reducible apply Fr.alloc | with_reducible apply Fr.drew | with_reducible apply Fr.drewN | (with_reducible refine Fr.setCell ?_ ?_ _)))) (fun h => h)) n (run_zero zero_int w.drew) true
  clear h hb
  cases ho : m.owner n with
  | none =>
    have hr : regC m.owner n = none := by unfold regC; rw [ho]; rfl
    rw [hr] at hl hl2
    simp at hl hl2
    go_enter Try.func14, Try.ntmps14
    go_wp2_with (first | fail | still_step | (with_reducible refine wpStill_nil ?_) | (with_reducible refine Flow.Both.mk ?_ ?_) | (with_reducible exact True.intro) | (with_reducible refine Flow.same_mk rfl rfl rfl ?_; go_simp; done) | (with_reducible exact Flow.same_un rfl rfl rfl) | (refine Flow.region_still mixed ?hB ?_; (case hB => decide +kernel)))
    go_ret
    exact ⟨rfl, by (repeat' (first | with_reducible exact Fr.refl _ _ | with_reducible apply Fr.alloc | with_reducible apply Fr.drew | with_reducible apply Fr.drewN | (with_reducible refine Fr.setCell ?_ ?_ _)))⟩
  | some x =>
    have hr : regC m.owner n = some (.int .i64 x) := by unfold regC; rw [ho]; rfl
    rw [hr] at hl hl2
    simp at hl hl2
    go_enter Try.func14, Try.ntmps14
    go_wp2_with (first | fail | still_step | (with_reducible refine wpStill_nil ?_) | (with_reducible refine Flow.Both.mk ?_ ?_) | (with_reducible exact True.intro) | (with_reducible refine Flow.same_mk rfl rfl rfl ?_; go_simp; done) | (with_reducible exact Flow.same_un rfl rfl rfl) | (refine Flow.region_still mixed ?hB ?_; (case hB => decide +kernel)))
    go_ret
    exact ⟨rfl, by (repeat' (first | with_reducible exact Fr.refl _ _ | with_reducible apply Fr.alloc | with_reducible apply Fr.drew | with_reducible apply Fr.drewN | (with_reducible refine Fr.setCell ?_ ?_ _)))⟩
end Go.Proofs.Ytokmdjpaegaojaa.Seq
