/-
  calc: what an operator comes to of two numbers.
-/
import Derived.Test.YtbfeopakmjcapaaFork
import Derived.Test.YtbfeopakmjcapaaBase
set_option linter.unusedVariables false
set_option linter.unusedSimpArgs false
set_option maxHeartbeats 4000000
set_option maxRecDepth 8000
namespace Go.Proofs.Ytbfeopakmjcapaa
open Go.RowKit
attribute [local irreducible] wpStill wpList Calls CallsIn

def toldZ (c : Bool) : Int := if c then 1 else 0

theorem and63_nonneg (n : Int) : 0 ≤ bits .and .i64 n 63 := by
  have h1 : (BitVec.ofInt 64 63).toNat = 2 ^ 6 - 1 := by decide
  show 0 ≤ IntKind.i64.wrap ((BitVec.ofInt 64 n &&& BitVec.ofInt 64 63).toNat : Nat)
  rw [BitVec.toNat_and, BitVec.toNat_ofInt, h1, Nat.and_two_pow_sub_one_eq_mod, IntKind.wrap_i64]
  omega

theorem told_is (c : Bool) (w : World) : Calls Try.prog 110 #[.bool c] w fun e w' => e = .returned (.int .i64 (toldZ c)) ∧ w' = w := by
  cases c
  all_goals
    go_enter Try.func110, Try.ntmps110
    go_wp2_with (first | still_step | (with_reducible first | refine wpStill_nil ?_ | refine Flow.Both.mk ?_ ?_ | exact True.intro) | (with_reducible refine Flow.same_mk rfl rfl rfl ?_; go_simp; done) | (with_reducible exact Flow.same_un rfl rfl rfl) | (refine Flow.region_still mixed ?hB ?_; (case hB => decide +kernel)))
    go_ret
    exact ⟨rfl, rfl⟩

def divZ (a b : Int) : Int := if b = 0 then 0 else if b = -1 then wrap64 (-a) else wrap64 (a.tdiv b)

theorem div_is (a b : Int) (w : World) : Calls Try.prog 102 #[.int .i64 a, .int .i64 b] w fun e w' => e = .returned (.int .i64 (divZ a b)) ∧ w' = w := by
  go_enter Try.func102, Try.ntmps102
  by_cases h0 : b = 0
  · subst h0
    go_wp2_with (first | still_step | (with_reducible first | refine wpStill_nil ?_ | refine Flow.Both.mk ?_ ?_ | exact True.intro) | (with_reducible refine Flow.same_mk rfl rfl rfl ?_; go_simp; done) | (with_reducible exact Flow.same_un rfl rfl rfl) | (refine Flow.region_still mixed ?hB ?_; (case hB => decide +kernel)))
    go_ret
    exact ⟨rfl, rfl⟩
  · by_cases h1 : b = -1
    · subst h1
      go_wp2_with (first | still_step | (with_reducible first | refine wpStill_nil ?_ | refine Flow.Both.mk ?_ ?_ | exact True.intro) | (with_reducible refine Flow.same_mk rfl rfl rfl ?_; go_simp; done) | (with_reducible exact Flow.same_un rfl rfl rfl) | (refine Flow.region_still mixed ?hB ?_; (case hB => decide +kernel)))
      go_ret
      exact ⟨rfl, rfl⟩
    · have hz : divZ a b = wrap64 (a.tdiv b) := by unfold divZ; rw [if_neg h0, if_neg h1]
      rw [hz]
      clear hz
      go_wp2_with (first | still_step | (with_reducible first | refine wpStill_nil ?_ | refine Flow.Both.mk ?_ ?_ | exact True.intro) | (with_reducible refine Flow.same_mk rfl rfl rfl ?_; go_simp; done) | (with_reducible exact Flow.same_un rfl rfl rfl) | (refine Flow.region_still mixed ?hB ?_; (case hB => decide +kernel)))
      go_ret
      exact ⟨rfl, rfl⟩

/-- What operator number i comes to. -/
def opZ (i : Nat) (a b : Int) : Int :=
  match i with
  | 0 => wrap64 (a + b)
  | 1 => wrap64 (a - b)
  | 2 => wrap64 (a * b)
  | 3 => divZ a b
  | 4 => IntKind.i64.wrap (a - IntKind.i64.wrap (b * divZ a b))
  | 5 => bits .and .i64 a b
  | 6 => bits .or .i64 a b
  | 7 => bits .xor .i64 a b
  | 8 => wrap64 (a * 2 ^ min (bits .and .i64 b 63).toNat 64)
  | 9 => a / 2 ^ min (bits .and .i64 b 63).toNat 64
  | 10 => toldZ (a == b)
  | 11 => toldZ (a != b)
  | 12 => toldZ (decide (a < b))
  | 13 => toldZ (decide (a ≤ b))
  | 14 => toldZ (decide (b < a))
  | 15 => toldZ (decide (b ≤ a))
  | 16 => toldZ (decide (IntKind.u64.wrap a < IntKind.u64.wrap b))
  | 17 => toldZ (a != 0 && b != 0)
  | 18 => toldZ (a != 0 || b != 0)
  | _ => 0

def evalZ (op a b : Int) : Int := if 0 ≤ op ∧ op < 19 then opZ op.toNat a b else 0

theorem cl1 (x y : Nat) (a b : Int) (w : World) (ha : w.cell? ⟨x, 0, none⟩ = some (.int .i64 a)) (hb : w.cell? ⟨y, 0, none⟩ = some (.int .i64 b)) :
    Calls Try.prog 98 #[.pointer (some ⟨x, 0, none⟩), .pointer (some ⟨y, 0, none⟩)] w fun e w' => e = .returned (.int .i64 (opZ 0 a b)) ∧ Fr (fun _ => False) w w' := by
  go_enter Try.func98, Try.ntmps98
  go_wp2_with (first | (go_at_call 102; refine (div_is _ _ _).mono ?_; rintro e w1 ⟨rfl, rfl⟩) | (go_at_call 110; refine (told_is _ _).mono ?_; rintro e w1 ⟨rfl, rfl⟩) | still_step | (with_reducible first | refine wpStill_nil ?_ | refine Flow.Both.mk ?_ ?_ | exact True.intro) | (with_reducible refine Flow.same_mk rfl rfl rfl ?_; go_simp; done) | (with_reducible exact Flow.same_un rfl rfl rfl) | (refine Flow.region_still mixed ?hB ?_; (case hB => decide +kernel)))
  go_ret
  exact ⟨rfl, by (with_reducible repeat' (first | exact Fr.refl _ _ | apply Fr.alloc | apply Fr.drew | apply Fr.drewN | refine Fr.setCell ?_ ?_ _))⟩

theorem cl2 (x y : Nat) (a b : Int) (w : World) (ha : w.cell? ⟨x, 0, none⟩ = some (.int .i64 a)) (hb : w.cell? ⟨y, 0, none⟩ = some (.int .i64 b)) :
    Calls Try.prog 99 #[.pointer (some ⟨x, 0, none⟩), .pointer (some ⟨y, 0, none⟩)] w fun e w' => e = .returned (.int .i64 (opZ 1 a b)) ∧ Fr (fun _ => False) w w' := by
  go_enter Try.func99, Try.ntmps99
  go_wp2_with (first | (go_at_call 102; refine (div_is _ _ _).mono ?_; rintro e w1 ⟨rfl, rfl⟩) | (go_at_call 110; refine (told_is _ _).mono ?_; rintro e w1 ⟨rfl, rfl⟩) | still_step | (with_reducible first | refine wpStill_nil ?_ | refine Flow.Both.mk ?_ ?_ | exact True.intro) | (with_reducible refine Flow.same_mk rfl rfl rfl ?_; go_simp; done) | (with_reducible exact Flow.same_un rfl rfl rfl) | (refine Flow.region_still mixed ?hB ?_; (case hB => decide +kernel)))
  go_ret
  exact ⟨rfl, by (with_reducible repeat' (first | exact Fr.refl _ _ | apply Fr.alloc | apply Fr.drew | apply Fr.drewN | refine Fr.setCell ?_ ?_ _))⟩

theorem cl3 (x y : Nat) (a b : Int) (w : World) (ha : w.cell? ⟨x, 0, none⟩ = some (.int .i64 a)) (hb : w.cell? ⟨y, 0, none⟩ = some (.int .i64 b)) :
    Calls Try.prog 100 #[.pointer (some ⟨x, 0, none⟩), .pointer (some ⟨y, 0, none⟩)] w fun e w' => e = .returned (.int .i64 (opZ 2 a b)) ∧ Fr (fun _ => False) w w' := by
  go_enter Try.func100, Try.ntmps100
  go_wp2_with (first | (go_at_call 102; refine (div_is _ _ _).mono ?_; rintro e w1 ⟨rfl, rfl⟩) | (go_at_call 110; refine (told_is _ _).mono ?_; rintro e w1 ⟨rfl, rfl⟩) | still_step | (with_reducible first | refine wpStill_nil ?_ | refine Flow.Both.mk ?_ ?_ | exact True.intro) | (with_reducible refine Flow.same_mk rfl rfl rfl ?_; go_simp; done) | (with_reducible exact Flow.same_un rfl rfl rfl) | (refine Flow.region_still mixed ?hB ?_; (case hB => decide +kernel)))
  go_ret
  exact ⟨rfl, by (with_reducible repeat' (first | exact Fr.refl _ _ | apply Fr.alloc | apply Fr.drew | apply Fr.drewN | refine Fr.setCell ?_ ?_ _))⟩

theorem cl4 (x y : Nat) (a b : Int) (w : World) (ha : w.cell? ⟨x, 0, none⟩ = some (.int .i64 a)) (hb : w.cell? ⟨y, 0, none⟩ = some (.int .i64 b)) :
    Calls Try.prog 101 #[.pointer (some ⟨x, 0, none⟩), .pointer (some ⟨y, 0, none⟩)] w fun e w' => e = .returned (.int .i64 (opZ 3 a b)) ∧ Fr (fun _ => False) w w' := by
  go_enter Try.func101, Try.ntmps101
  go_wp2_with (first | (go_at_call 102; refine (div_is _ _ _).mono ?_; rintro e w1 ⟨rfl, rfl⟩) | (go_at_call 110; refine (told_is _ _).mono ?_; rintro e w1 ⟨rfl, rfl⟩) | still_step | (with_reducible first | refine wpStill_nil ?_ | refine Flow.Both.mk ?_ ?_ | exact True.intro) | (with_reducible refine Flow.same_mk rfl rfl rfl ?_; go_simp; done) | (with_reducible exact Flow.same_un rfl rfl rfl) | (refine Flow.region_still mixed ?hB ?_; (case hB => decide +kernel)))
  go_ret
  exact ⟨rfl, by (with_reducible repeat' (first | exact Fr.refl _ _ | apply Fr.alloc | apply Fr.drew | apply Fr.drewN | refine Fr.setCell ?_ ?_ _))⟩

theorem cl5 (x y : Nat) (a b : Int) (w : World) (ha : w.cell? ⟨x, 0, none⟩ = some (.int .i64 a)) (hb : w.cell? ⟨y, 0, none⟩ = some (.int .i64 b)) :
    Calls Try.prog 103 #[.pointer (some ⟨x, 0, none⟩), .pointer (some ⟨y, 0, none⟩)] w fun e w' => e = .returned (.int .i64 (opZ 4 a b)) ∧ Fr (fun _ => False) w w' := by
  go_enter Try.func103, Try.ntmps103
  go_wp2_with (first | (go_at_call 102; refine (div_is _ _ _).mono ?_; rintro e w1 ⟨rfl, rfl⟩) | (go_at_call 110; refine (told_is _ _).mono ?_; rintro e w1 ⟨rfl, rfl⟩) | still_step | (with_reducible first | refine wpStill_nil ?_ | refine Flow.Both.mk ?_ ?_ | exact True.intro) | (with_reducible refine Flow.same_mk rfl rfl rfl ?_; go_simp; done) | (with_reducible exact Flow.same_un rfl rfl rfl) | (with_reducible refine Flow.region_flow (id := 1) [0, 0, 0, 0, 12, 30, 63, 127] 16 111 [(0, none), (1, none), (2, none), (3, none), (4, some [0, 1]), (5, none), (6, none), (7, none)] mixed ?hB ?_; (case hB => decide +kernel); simp only [Flow.textOf, Flow.q1, Flow.q2, Flow.q3, Flow.q4, Flow.q5, Flow.q6, Flow.q7, Flow.q8, Flow.q9, Flow.wpFl, Flow.SameAll]) | (refine Flow.region_still mixed ?hB ?_; (case hB => decide +kernel)))
  go_ret
  exact ⟨rfl, by (with_reducible repeat' (first | exact Fr.refl _ _ | apply Fr.alloc | apply Fr.drew | apply Fr.drewN | refine Fr.setCell ?_ ?_ _))⟩

theorem cl6 (x y : Nat) (a b : Int) (w : World) (ha : w.cell? ⟨x, 0, none⟩ = some (.int .i64 a)) (hb : w.cell? ⟨y, 0, none⟩ = some (.int .i64 b)) :
    Calls Try.prog 104 #[.pointer (some ⟨x, 0, none⟩), .pointer (some ⟨y, 0, none⟩)] w fun e w' => e = .returned (.int .i64 (opZ 5 a b)) ∧ Fr (fun _ => False) w w' := by
  go_enter Try.func104, Try.ntmps104
  go_wp2_with (first | (go_at_call 102; refine (div_is _ _ _).mono ?_; rintro e w1 ⟨rfl, rfl⟩) | (go_at_call 110; refine (told_is _ _).mono ?_; rintro e w1 ⟨rfl, rfl⟩) | still_step | (with_reducible first | refine wpStill_nil ?_ | refine Flow.Both.mk ?_ ?_ | exact True.intro) | (with_reducible refine Flow.same_mk rfl rfl rfl ?_; go_simp; done) | (with_reducible exact Flow.same_un rfl rfl rfl) | (refine Flow.region_still mixed ?hB ?_; (case hB => decide +kernel)))
  go_ret
  exact ⟨rfl, by (with_reducible repeat' (first | exact Fr.refl _ _ | apply Fr.alloc | apply Fr.drew | apply Fr.drewN | refine Fr.setCell ?_ ?_ _))⟩

theorem cl7 (x y : Nat) (a b : Int) (w : World) (ha : w.cell? ⟨x, 0, none⟩ = some (.int .i64 a)) (hb : w.cell? ⟨y, 0, none⟩ = some (.int .i64 b)) :
    Calls Try.prog 105 #[.pointer (some ⟨x, 0, none⟩), .pointer (some ⟨y, 0, none⟩)] w fun e w' => e = .returned (.int .i64 (opZ 6 a b)) ∧ Fr (fun _ => False) w w' := by
  go_enter Try.func105, Try.ntmps105
  go_wp2_with (first | (go_at_call 102; refine (div_is _ _ _).mono ?_; rintro e w1 ⟨rfl, rfl⟩) | (go_at_call 110; refine (told_is _ _).mono ?_; rintro e w1 ⟨rfl, rfl⟩) | still_step | (with_reducible first | refine wpStill_nil ?_ | refine Flow.Both.mk ?_ ?_ | exact True.intro) | (with_reducible refine Flow.same_mk rfl rfl rfl ?_; go_simp; done) | (with_reducible exact Flow.same_un rfl rfl rfl) | (refine Flow.region_still mixed ?hB ?_; (case hB => decide +kernel)))
  go_ret
  exact ⟨rfl, by (with_reducible repeat' (first | exact Fr.refl _ _ | apply Fr.alloc | apply Fr.drew | apply Fr.drewN | refine Fr.setCell ?_ ?_ _))⟩

theorem cl8 (x y : Nat) (a b : Int) (w : World) (ha : w.cell? ⟨x, 0, none⟩ = some (.int .i64 a)) (hb : w.cell? ⟨y, 0, none⟩ = some (.int .i64 b)) :
    Calls Try.prog 106 #[.pointer (some ⟨x, 0, none⟩), .pointer (some ⟨y, 0, none⟩)] w fun e w' => e = .returned (.int .i64 (opZ 7 a b)) ∧ Fr (fun _ => False) w w' := by
  go_enter Try.func106, Try.ntmps106
  go_wp2_with (first | (go_at_call 102; refine (div_is _ _ _).mono ?_; rintro e w1 ⟨rfl, rfl⟩) | (go_at_call 110; refine (told_is _ _).mono ?_; rintro e w1 ⟨rfl, rfl⟩) | still_step | (with_reducible first | refine wpStill_nil ?_ | refine Flow.Both.mk ?_ ?_ | exact True.intro) | (with_reducible refine Flow.same_mk rfl rfl rfl ?_; go_simp; done) | (with_reducible exact Flow.same_un rfl rfl rfl) | (refine Flow.region_still mixed ?hB ?_; (case hB => decide +kernel)))
  go_ret
  exact ⟨rfl, by (with_reducible repeat' (first | exact Fr.refl _ _ | apply Fr.alloc | apply Fr.drew | apply Fr.drewN | refine Fr.setCell ?_ ?_ _))⟩

theorem cl9 (x y : Nat) (a b : Int) (w : World) (ha : w.cell? ⟨x, 0, none⟩ = some (.int .i64 a)) (hb : w.cell? ⟨y, 0, none⟩ = some (.int .i64 b)) :
    Calls Try.prog 107 #[.pointer (some ⟨x, 0, none⟩), .pointer (some ⟨y, 0, none⟩)] w fun e w' => e = .returned (.int .i64 (opZ 8 a b)) ∧ Fr (fun _ => False) w w' := by
  have hs : 0 ≤ bits BinOp.and IntKind.i64 b 63 := and63_nonneg b
  go_enter Try.func107, Try.ntmps107
  go_wp2_with (first | (go_at_call 102; refine (div_is _ _ _).mono ?_; rintro e w1 ⟨rfl, rfl⟩) | (go_at_call 110; refine (told_is _ _).mono ?_; rintro e w1 ⟨rfl, rfl⟩) | still_step | (with_reducible first | refine wpStill_nil ?_ | refine Flow.Both.mk ?_ ?_ | exact True.intro) | (with_reducible refine Flow.same_mk rfl rfl rfl ?_; go_simp; done) | (with_reducible exact Flow.same_un rfl rfl rfl) | (refine Flow.region_still mixed ?hB ?_; (case hB => decide +kernel)))
  go_ret
  exact ⟨rfl, by (with_reducible repeat' (first | exact Fr.refl _ _ | apply Fr.alloc | apply Fr.drew | apply Fr.drewN | refine Fr.setCell ?_ ?_ _))⟩

theorem cl10 (x y : Nat) (a b : Int) (w : World) (ha : w.cell? ⟨x, 0, none⟩ = some (.int .i64 a)) (hb : w.cell? ⟨y, 0, none⟩ = some (.int .i64 b)) :
    Calls Try.prog 108 #[.pointer (some ⟨x, 0, none⟩), .pointer (some ⟨y, 0, none⟩)] w fun e w' => e = .returned (.int .i64 (opZ 9 a b)) ∧ Fr (fun _ => False) w w' := by
  have hs : 0 ≤ bits BinOp.and IntKind.i64 b 63 := and63_nonneg b
  go_enter Try.func108, Try.ntmps108
  go_wp2_with (first | (go_at_call 102; refine (div_is _ _ _).mono ?_; rintro e w1 ⟨rfl, rfl⟩) | (go_at_call 110; refine (told_is _ _).mono ?_; rintro e w1 ⟨rfl, rfl⟩) | still_step | (with_reducible first | refine wpStill_nil ?_ | refine Flow.Both.mk ?_ ?_ | exact True.intro) | (with_reducible refine Flow.same_mk rfl rfl rfl ?_; go_simp; done) | (with_reducible exact Flow.same_un rfl rfl rfl) | (refine Flow.region_still mixed ?hB ?_; (case hB => decide +kernel)))
  go_ret
  exact ⟨rfl, by (with_reducible repeat' (first | exact Fr.refl _ _ | apply Fr.alloc | apply Fr.drew | apply Fr.drewN | refine Fr.setCell ?_ ?_ _))⟩

theorem cl11 (x y : Nat) (a b : Int) (w : World) (ha : w.cell? ⟨x, 0, none⟩ = some (.int .i64 a)) (hb : w.cell? ⟨y, 0, none⟩ = some (.int .i64 b)) :
    Calls Try.prog 109 #[.pointer (some ⟨x, 0, none⟩), .pointer (some ⟨y, 0, none⟩)] w fun e w' => e = .returned (.int .i64 (opZ 10 a b)) ∧ Fr (fun _ => False) w w' := by
  go_enter Try.func109, Try.ntmps109
  go_wp2_with (first | (go_at_call 102; refine (div_is _ _ _).mono ?_; rintro e w1 ⟨rfl, rfl⟩) | (go_at_call 110; refine (told_is _ _).mono ?_; rintro e w1 ⟨rfl, rfl⟩) | still_step | (with_reducible first | refine wpStill_nil ?_ | refine Flow.Both.mk ?_ ?_ | exact True.intro) | (with_reducible refine Flow.same_mk rfl rfl rfl ?_; go_simp; done) | (with_reducible exact Flow.same_un rfl rfl rfl) | (refine Flow.region_still mixed ?hB ?_; (case hB => decide +kernel)))
  go_ret
  exact ⟨rfl, by (with_reducible repeat' (first | exact Fr.refl _ _ | apply Fr.alloc | apply Fr.drew | apply Fr.drewN | refine Fr.setCell ?_ ?_ _))⟩

theorem cl12 (x y : Nat) (a b : Int) (w : World) (ha : w.cell? ⟨x, 0, none⟩ = some (.int .i64 a)) (hb : w.cell? ⟨y, 0, none⟩ = some (.int .i64 b)) :
    Calls Try.prog 111 #[.pointer (some ⟨x, 0, none⟩), .pointer (some ⟨y, 0, none⟩)] w fun e w' => e = .returned (.int .i64 (opZ 11 a b)) ∧ Fr (fun _ => False) w w' := by
  go_enter Try.func111, Try.ntmps111
  go_wp2_with (first | (go_at_call 102; refine (div_is _ _ _).mono ?_; rintro e w1 ⟨rfl, rfl⟩) | (go_at_call 110; refine (told_is _ _).mono ?_; rintro e w1 ⟨rfl, rfl⟩) | still_step | (with_reducible first | refine wpStill_nil ?_ | refine Flow.Both.mk ?_ ?_ | exact True.intro) | (with_reducible refine Flow.same_mk rfl rfl rfl ?_; go_simp; done) | (with_reducible exact Flow.same_un rfl rfl rfl) | (refine Flow.region_still mixed ?hB ?_; (case hB => decide +kernel)))
  go_ret
  exact ⟨rfl, by (with_reducible repeat' (first | exact Fr.refl _ _ | apply Fr.alloc | apply Fr.drew | apply Fr.drewN | refine Fr.setCell ?_ ?_ _))⟩

theorem cl13 (x y : Nat) (a b : Int) (w : World) (ha : w.cell? ⟨x, 0, none⟩ = some (.int .i64 a)) (hb : w.cell? ⟨y, 0, none⟩ = some (.int .i64 b)) :
    Calls Try.prog 112 #[.pointer (some ⟨x, 0, none⟩), .pointer (some ⟨y, 0, none⟩)] w fun e w' => e = .returned (.int .i64 (opZ 12 a b)) ∧ Fr (fun _ => False) w w' := by
  go_enter Try.func112, Try.ntmps112
  go_wp2_with (first | (go_at_call 102; refine (div_is _ _ _).mono ?_; rintro e w1 ⟨rfl, rfl⟩) | (go_at_call 110; refine (told_is _ _).mono ?_; rintro e w1 ⟨rfl, rfl⟩) | still_step | (with_reducible first | refine wpStill_nil ?_ | refine Flow.Both.mk ?_ ?_ | exact True.intro) | (with_reducible refine Flow.same_mk rfl rfl rfl ?_; go_simp; done) | (with_reducible exact Flow.same_un rfl rfl rfl) | (refine Flow.region_still mixed ?hB ?_; (case hB => decide +kernel)))
  go_ret
  exact ⟨rfl, by (with_reducible repeat' (first | exact Fr.refl _ _ | apply Fr.alloc | apply Fr.drew | apply Fr.drewN | refine Fr.setCell ?_ ?_ _))⟩

theorem cl14 (x y : Nat) (a b : Int) (w : World) (ha : w.cell? ⟨x, 0, none⟩ = some (.int .i64 a)) (hb : w.cell? ⟨y, 0, none⟩ = some (.int .i64 b)) :
    Calls Try.prog 113 #[.pointer (some ⟨x, 0, none⟩), .pointer (some ⟨y, 0, none⟩)] w fun e w' => e = .returned (.int .i64 (opZ 13 a b)) ∧ Fr (fun _ => False) w w' := by
  go_enter Try.func113, Try.ntmps113
  go_wp2_with (first | (go_at_call 102; refine (div_is _ _ _).mono ?_; rintro e w1 ⟨rfl, rfl⟩) | (go_at_call 110; refine (told_is _ _).mono ?_; rintro e w1 ⟨rfl, rfl⟩) | still_step | (with_reducible first | refine wpStill_nil ?_ | refine Flow.Both.mk ?_ ?_ | exact True.intro) | (with_reducible refine Flow.same_mk rfl rfl rfl ?_; go_simp; done) | (with_reducible exact Flow.same_un rfl rfl rfl) | (refine Flow.region_still mixed ?hB ?_; (case hB => decide +kernel)))
  go_ret
  exact ⟨rfl, by (with_reducible repeat' (first | exact Fr.refl _ _ | apply Fr.alloc | apply Fr.drew | apply Fr.drewN | refine Fr.setCell ?_ ?_ _))⟩

theorem cl15 (x y : Nat) (a b : Int) (w : World) (ha : w.cell? ⟨x, 0, none⟩ = some (.int .i64 a)) (hb : w.cell? ⟨y, 0, none⟩ = some (.int .i64 b)) :
    Calls Try.prog 114 #[.pointer (some ⟨x, 0, none⟩), .pointer (some ⟨y, 0, none⟩)] w fun e w' => e = .returned (.int .i64 (opZ 14 a b)) ∧ Fr (fun _ => False) w w' := by
  go_enter Try.func114, Try.ntmps114
  go_wp2_with (first | (go_at_call 102; refine (div_is _ _ _).mono ?_; rintro e w1 ⟨rfl, rfl⟩) | (go_at_call 110; refine (told_is _ _).mono ?_; rintro e w1 ⟨rfl, rfl⟩) | still_step | (with_reducible first | refine wpStill_nil ?_ | refine Flow.Both.mk ?_ ?_ | exact True.intro) | (with_reducible refine Flow.same_mk rfl rfl rfl ?_; go_simp; done) | (with_reducible exact Flow.same_un rfl rfl rfl) | (refine Flow.region_still mixed ?hB ?_; (case hB => decide +kernel)))
  go_ret
  exact ⟨rfl, by (with_reducible repeat' (first | exact Fr.refl _ _ | apply Fr.alloc | apply Fr.drew | apply Fr.drewN | refine Fr.setCell ?_ ?_ _))⟩

theorem cl16 (x y : Nat) (a b : Int) (w : World) (ha : w.cell? ⟨x, 0, none⟩ = some (.int .i64 a)) (hb : w.cell? ⟨y, 0, none⟩ = some (.int .i64 b)) :
    Calls Try.prog 115 #[.pointer (some ⟨x, 0, none⟩), .pointer (some ⟨y, 0, none⟩)] w fun e w' => e = .returned (.int .i64 (opZ 15 a b)) ∧ Fr (fun _ => False) w w' := by
  go_enter Try.func115, Try.ntmps115
  go_wp2_with (first | (go_at_call 102; refine (div_is _ _ _).mono ?_; rintro e w1 ⟨rfl, rfl⟩) | (go_at_call 110; refine (told_is _ _).mono ?_; rintro e w1 ⟨rfl, rfl⟩) | still_step | (with_reducible first | refine wpStill_nil ?_ | refine Flow.Both.mk ?_ ?_ | exact True.intro) | (with_reducible refine Flow.same_mk rfl rfl rfl ?_; go_simp; done) | (with_reducible exact Flow.same_un rfl rfl rfl) | (refine Flow.region_still mixed ?hB ?_; (case hB => decide +kernel)))
  go_ret
  exact ⟨rfl, by (with_reducible repeat' (first | exact Fr.refl _ _ | apply Fr.alloc | apply Fr.drew | apply Fr.drewN | refine Fr.setCell ?_ ?_ _))⟩

theorem cl17 (x y : Nat) (a b : Int) (w : World) (ha : w.cell? ⟨x, 0, none⟩ = some (.int .i64 a)) (hb : w.cell? ⟨y, 0, none⟩ = some (.int .i64 b)) :
    Calls Try.prog 116 #[.pointer (some ⟨x, 0, none⟩), .pointer (some ⟨y, 0, none⟩)] w fun e w' => e = .returned (.int .i64 (opZ 16 a b)) ∧ Fr (fun _ => False) w w' := by
  go_enter Try.func116, Try.ntmps116
  go_wp2_with (first | (go_at_call 102; refine (div_is _ _ _).mono ?_; rintro e w1 ⟨rfl, rfl⟩) | (go_at_call 110; refine (told_is _ _).mono ?_; rintro e w1 ⟨rfl, rfl⟩) | still_step | (with_reducible first | refine wpStill_nil ?_ | refine Flow.Both.mk ?_ ?_ | exact True.intro) | (with_reducible refine Flow.same_mk rfl rfl rfl ?_; go_simp; done) | (with_reducible exact Flow.same_un rfl rfl rfl) | (refine Flow.region_still mixed ?hB ?_; (case hB => decide +kernel)))
  go_ret
  exact ⟨rfl, by (with_reducible repeat' (first | exact Fr.refl _ _ | apply Fr.alloc | apply Fr.drew | apply Fr.drewN | refine Fr.setCell ?_ ?_ _))⟩

theorem cl18 (x y : Nat) (a b : Int) (w : World) (ha : w.cell? ⟨x, 0, none⟩ = some (.int .i64 a)) (hb : w.cell? ⟨y, 0, none⟩ = some (.int .i64 b)) :
    Calls Try.prog 117 #[.pointer (some ⟨x, 0, none⟩), .pointer (some ⟨y, 0, none⟩)] w fun e w' => e = .returned (.int .i64 (opZ 17 a b)) ∧ Fr (fun _ => False) w w' := by
  go_enter Try.func117, Try.ntmps117
  by_cases h : a = 0
  · subst h
    go_wp2_with (first | (go_at_call 102; refine (div_is _ _ _).mono ?_; rintro e w1 ⟨rfl, rfl⟩) | (go_at_call 110; refine (told_is _ _).mono ?_; rintro e w1 ⟨rfl, rfl⟩) | still_step | (with_reducible first | refine wpStill_nil ?_ | refine Flow.Both.mk ?_ ?_ | exact True.intro) | (with_reducible refine Flow.same_mk rfl rfl rfl ?_; go_simp; done) | (with_reducible exact Flow.same_un rfl rfl rfl) | (refine Flow.region_still mixed ?hB ?_; (case hB => decide +kernel)))
    go_ret
    exact ⟨rfl, by (with_reducible repeat' (first | exact Fr.refl _ _ | apply Fr.alloc | apply Fr.drew | apply Fr.drewN | refine Fr.setCell ?_ ?_ _))⟩
  · have hn : (a != 0) = true := by simpa using h
    go_wp2_with (first | (go_at_call 102; refine (div_is _ _ _).mono ?_; rintro e w1 ⟨rfl, rfl⟩) | (go_at_call 110; refine (told_is _ _).mono ?_; rintro e w1 ⟨rfl, rfl⟩) | still_step | (with_reducible first | refine wpStill_nil ?_ | refine Flow.Both.mk ?_ ?_ | exact True.intro) | (with_reducible refine Flow.same_mk rfl rfl rfl ?_; go_simp; done) | (with_reducible exact Flow.same_un rfl rfl rfl) | (refine Flow.region_still mixed ?hB ?_; (case hB => decide +kernel)))
    go_ret
    refine ⟨?_, by (with_reducible repeat' (first | exact Fr.refl _ _ | apply Fr.alloc | apply Fr.drew | apply Fr.drewN | refine Fr.setCell ?_ ?_ _))⟩
    simp [opZ, hn]

theorem cl19 (x y : Nat) (a b : Int) (w : World) (ha : w.cell? ⟨x, 0, none⟩ = some (.int .i64 a)) (hb : w.cell? ⟨y, 0, none⟩ = some (.int .i64 b)) :
    Calls Try.prog 118 #[.pointer (some ⟨x, 0, none⟩), .pointer (some ⟨y, 0, none⟩)] w fun e w' => e = .returned (.int .i64 (opZ 18 a b)) ∧ Fr (fun _ => False) w w' := by
  go_enter Try.func118, Try.ntmps118
  by_cases h : a = 0
  · subst h
    go_wp2_with (first | (go_at_call 102; refine (div_is _ _ _).mono ?_; rintro e w1 ⟨rfl, rfl⟩) | (go_at_call 110; refine (told_is _ _).mono ?_; rintro e w1 ⟨rfl, rfl⟩) | still_step | (with_reducible first | refine wpStill_nil ?_ | refine Flow.Both.mk ?_ ?_ | exact True.intro) | (with_reducible refine Flow.same_mk rfl rfl rfl ?_; go_simp; done) | (with_reducible exact Flow.same_un rfl rfl rfl) | (refine Flow.region_still mixed ?hB ?_; (case hB => decide +kernel)))
    go_ret
    exact ⟨rfl, by (with_reducible repeat' (first | exact Fr.refl _ _ | apply Fr.alloc | apply Fr.drew | apply Fr.drewN | refine Fr.setCell ?_ ?_ _))⟩
  · have hn : (a != 0) = true := by simpa using h
    go_wp2_with (first | (go_at_call 102; refine (div_is _ _ _).mono ?_; rintro e w1 ⟨rfl, rfl⟩) | (go_at_call 110; refine (told_is _ _).mono ?_; rintro e w1 ⟨rfl, rfl⟩) | still_step | (with_reducible first | refine wpStill_nil ?_ | refine Flow.Both.mk ?_ ?_ | exact True.intro) | (with_reducible refine Flow.same_mk rfl rfl rfl ?_; go_simp; done) | (with_reducible exact Flow.same_un rfl rfl rfl) | (refine Flow.region_still mixed ?hB ?_; (case hB => decide +kernel)))
    go_ret
    refine ⟨?_, by (with_reducible repeat' (first | exact Fr.refl _ _ | apply Fr.alloc | apply Fr.drew | apply Fr.drewN | refine Fr.setCell ?_ ?_ _))⟩
    simp [opZ, hn]

theorem under_map : Try.prog.underlying 175 = some (.map 3 172) := by kernel_rfl
theorem under_int : Try.prog.underlying 3 = some (.int .i64) := by kernel_rfl

theorem zero_fn : (Try.prog.info? 172).map (fun i => i.zero) = some (some .nilFunc) := by kernel_rfl

set_option maxRecDepth 100000 in
theorem eval_r (op a b r : Int) (hr : r = evalZ op a b) (w : World) : Calls Try.prog 96 #[.int .i64 op, .int .i64 a, .int .i64 b] w fun e w' => e = .returned (.int .i64 r) ∧ Fr (fun _ => False) w w' := by
  go_enter Try.func96, Try.ntmps96
  have hmm := @run_makeMap Try.prog
  obtain ⟨w0, hw0⟩ : ∃ w0, w0 = ((w.alloc (.cells #[.int .i64 a] 2)).alloc (.cells #[.int .i64 b] 2)).alloc (.map #[] 0) := ⟨_, rfl⟩
  have hbl : w.heap.size + 1 + 1 < w0.heap.size := by rw [hw0]; simp
  have ca : w0.cell? ⟨w.heap.size, 0, none⟩ = some (.int .i64 a) := by rw [hw0]; simp [go_sem]
  have cb : w0.cell? ⟨w.heap.size + 1, 0, none⟩ = some (.int .i64 b) := by rw [hw0]; simp [go_sem]
  have HF := hid (show Fr (fun _ => False) w w0 by rw [hw0]; (with_reducible repeat' (first | exact Fr.refl _ _ | apply Fr.alloc | apply Fr.drew | apply Fr.drewN | refine Fr.setCell ?_ ?_ _)))
  have h0 : MapF w0 (w.heap.size + 1 + 1) .i64 (fun _ => none) := by
    have := MapF.made ((w.alloc (.cells #[.int .i64 a] 2)).alloc (.cells #[.int .i64 b] 2)) .i64
    rw [hw0]
    simpa using this
  have HB := hid (⟨h0, Fr.refl _ _⟩ : MapF w0 (w.heap.size + 1 + 1) .i64 (fun _ => none) ∧ Fr (fun x => x = w.heap.size + 1 + 1) w0 w0)
  clear h0
  go_wp2_with (first | (rw [← hw0]; refine wpList_insert (n := 0) (u := .func (.func 98) #[] #[.pointer (some ⟨w.heap.size, 0, none⟩), .pointer (some ⟨w.heap.size + 1, 0, none⟩)]) rfl (.tmp 10) (.const (.int .i64 0)) (.tmp 11) (.inl rfl) under_map under_int rfl rfl HB.out.1 rfl ?_; intro wn hm hf; have HB1 := hid (⟨hm, HB.out.2.trans hf (fun _ _ h => h)⟩ : _ ∧ Fr (fun x => x = w.heap.size + 1 + 1) w0 wn); clear HB hm hf; have HB := HB1; clear HB1) | (refine wpList_insert (n := 1) (u := .func (.func 99) #[] #[.pointer (some ⟨w.heap.size, 0, none⟩), .pointer (some ⟨w.heap.size + 1, 0, none⟩)]) rfl (.tmp 10) (.const (.int .i64 1)) (.tmp 12) (.inl rfl) under_map under_int rfl rfl HB.out.1 rfl ?_; intro wn hm hf; have HB1 := hid (⟨hm, HB.out.2.trans hf (fun _ _ h => h)⟩ : _ ∧ Fr (fun x => x = w.heap.size + 1 + 1) w0 wn); clear HB hm hf; have HB := HB1; clear HB1) | (refine wpList_insert (n := 2) (u := .func (.func 100) #[] #[.pointer (some ⟨w.heap.size, 0, none⟩), .pointer (some ⟨w.heap.size + 1, 0, none⟩)]) rfl (.tmp 10) (.const (.int .i64 2)) (.tmp 13) (.inl rfl) under_map under_int rfl rfl HB.out.1 rfl ?_; intro wn hm hf; have HB1 := hid (⟨hm, HB.out.2.trans hf (fun _ _ h => h)⟩ : _ ∧ Fr (fun x => x = w.heap.size + 1 + 1) w0 wn); clear HB hm hf; have HB := HB1; clear HB1) | (refine wpList_insert (n := 3) (u := .func (.func 101) #[] #[.pointer (some ⟨w.heap.size, 0, none⟩), .pointer (some ⟨w.heap.size + 1, 0, none⟩)]) rfl (.tmp 10) (.const (.int .i64 3)) (.tmp 14) (.inl rfl) under_map under_int rfl rfl HB.out.1 rfl ?_; intro wn hm hf; have HB1 := hid (⟨hm, HB.out.2.trans hf (fun _ _ h => h)⟩ : _ ∧ Fr (fun x => x = w.heap.size + 1 + 1) w0 wn); clear HB hm hf; have HB := HB1; clear HB1) | (refine wpList_insert (n := 4) (u := .func (.func 103) #[] #[.pointer (some ⟨w.heap.size, 0, none⟩), .pointer (some ⟨w.heap.size + 1, 0, none⟩)]) rfl (.tmp 10) (.const (.int .i64 4)) (.tmp 15) (.inl rfl) under_map under_int rfl rfl HB.out.1 rfl ?_; intro wn hm hf; have HB1 := hid (⟨hm, HB.out.2.trans hf (fun _ _ h => h)⟩ : _ ∧ Fr (fun x => x = w.heap.size + 1 + 1) w0 wn); clear HB hm hf; have HB := HB1; clear HB1) | (refine wpList_insert (n := 5) (u := .func (.func 104) #[] #[.pointer (some ⟨w.heap.size, 0, none⟩), .pointer (some ⟨w.heap.size + 1, 0, none⟩)]) rfl (.tmp 10) (.const (.int .i64 5)) (.tmp 16) (.inl rfl) under_map under_int rfl rfl HB.out.1 rfl ?_; intro wn hm hf; have HB1 := hid (⟨hm, HB.out.2.trans hf (fun _ _ h => h)⟩ : _ ∧ Fr (fun x => x = w.heap.size + 1 + 1) w0 wn); clear HB hm hf; have HB := HB1; clear HB1) | (refine wpList_insert (n := 6) (u := .func (.func 105) #[] #[.pointer (some ⟨w.heap.size, 0, none⟩), .pointer (some ⟨w.heap.size + 1, 0, none⟩)]) rfl (.tmp 10) (.const (.int .i64 6)) (.tmp 17) (.inl rfl) under_map under_int rfl rfl HB.out.1 rfl ?_; intro wn hm hf; have HB1 := hid (⟨hm, HB.out.2.trans hf (fun _ _ h => h)⟩ : _ ∧ Fr (fun x => x = w.heap.size + 1 + 1) w0 wn); clear HB hm hf; have HB := HB1; clear HB1) | (refine wpList_insert (n := 7) (u := .func (.func 106) #[] #[.pointer (some ⟨w.heap.size, 0, none⟩), .pointer (some ⟨w.heap.size + 1, 0, none⟩)]) rfl (.tmp 10) (.const (.int .i64 7)) (.tmp 18) (.inl rfl) under_map under_int rfl rfl HB.out.1 rfl ?_; intro wn hm hf; have HB1 := hid (⟨hm, HB.out.2.trans hf (fun _ _ h => h)⟩ : _ ∧ Fr (fun x => x = w.heap.size + 1 + 1) w0 wn); clear HB hm hf; have HB := HB1; clear HB1) | (refine wpList_insert (n := 8) (u := .func (.func 107) #[] #[.pointer (some ⟨w.heap.size, 0, none⟩), .pointer (some ⟨w.heap.size + 1, 0, none⟩)]) rfl (.tmp 10) (.const (.int .i64 8)) (.tmp 19) (.inl rfl) under_map under_int rfl rfl HB.out.1 rfl ?_; intro wn hm hf; have HB1 := hid (⟨hm, HB.out.2.trans hf (fun _ _ h => h)⟩ : _ ∧ Fr (fun x => x = w.heap.size + 1 + 1) w0 wn); clear HB hm hf; have HB := HB1; clear HB1) | (refine wpList_insert (n := 9) (u := .func (.func 108) #[] #[.pointer (some ⟨w.heap.size, 0, none⟩), .pointer (some ⟨w.heap.size + 1, 0, none⟩)]) rfl (.tmp 10) (.const (.int .i64 9)) (.tmp 20) (.inl rfl) under_map under_int rfl rfl HB.out.1 rfl ?_; intro wn hm hf; have HB1 := hid (⟨hm, HB.out.2.trans hf (fun _ _ h => h)⟩ : _ ∧ Fr (fun x => x = w.heap.size + 1 + 1) w0 wn); clear HB hm hf; have HB := HB1; clear HB1) | (refine wpList_insert (n := 10) (u := .func (.func 109) #[] #[.pointer (some ⟨w.heap.size, 0, none⟩), .pointer (some ⟨w.heap.size + 1, 0, none⟩)]) rfl (.tmp 10) (.const (.int .i64 10)) (.tmp 21) (.inl rfl) under_map under_int rfl rfl HB.out.1 rfl ?_; intro wn hm hf; have HB1 := hid (⟨hm, HB.out.2.trans hf (fun _ _ h => h)⟩ : _ ∧ Fr (fun x => x = w.heap.size + 1 + 1) w0 wn); clear HB hm hf; have HB := HB1; clear HB1) | (refine wpList_insert (n := 11) (u := .func (.func 111) #[] #[.pointer (some ⟨w.heap.size, 0, none⟩), .pointer (some ⟨w.heap.size + 1, 0, none⟩)]) rfl (.tmp 10) (.const (.int .i64 11)) (.tmp 22) (.inl rfl) under_map under_int rfl rfl HB.out.1 rfl ?_; intro wn hm hf; have HB1 := hid (⟨hm, HB.out.2.trans hf (fun _ _ h => h)⟩ : _ ∧ Fr (fun x => x = w.heap.size + 1 + 1) w0 wn); clear HB hm hf; have HB := HB1; clear HB1) | (refine wpList_insert (n := 12) (u := .func (.func 112) #[] #[.pointer (some ⟨w.heap.size, 0, none⟩), .pointer (some ⟨w.heap.size + 1, 0, none⟩)]) rfl (.tmp 10) (.const (.int .i64 12)) (.tmp 23) (.inl rfl) under_map under_int rfl rfl HB.out.1 rfl ?_; intro wn hm hf; have HB1 := hid (⟨hm, HB.out.2.trans hf (fun _ _ h => h)⟩ : _ ∧ Fr (fun x => x = w.heap.size + 1 + 1) w0 wn); clear HB hm hf; have HB := HB1; clear HB1) | (refine wpList_insert (n := 13) (u := .func (.func 113) #[] #[.pointer (some ⟨w.heap.size, 0, none⟩), .pointer (some ⟨w.heap.size + 1, 0, none⟩)]) rfl (.tmp 10) (.const (.int .i64 13)) (.tmp 24) (.inl rfl) under_map under_int rfl rfl HB.out.1 rfl ?_; intro wn hm hf; have HB1 := hid (⟨hm, HB.out.2.trans hf (fun _ _ h => h)⟩ : _ ∧ Fr (fun x => x = w.heap.size + 1 + 1) w0 wn); clear HB hm hf; have HB := HB1; clear HB1) | (refine wpList_insert (n := 14) (u := .func (.func 114) #[] #[.pointer (some ⟨w.heap.size, 0, none⟩), .pointer (some ⟨w.heap.size + 1, 0, none⟩)]) rfl (.tmp 10) (.const (.int .i64 14)) (.tmp 25) (.inl rfl) under_map under_int rfl rfl HB.out.1 rfl ?_; intro wn hm hf; have HB1 := hid (⟨hm, HB.out.2.trans hf (fun _ _ h => h)⟩ : _ ∧ Fr (fun x => x = w.heap.size + 1 + 1) w0 wn); clear HB hm hf; have HB := HB1; clear HB1) | (refine wpList_insert (n := 15) (u := .func (.func 115) #[] #[.pointer (some ⟨w.heap.size, 0, none⟩), .pointer (some ⟨w.heap.size + 1, 0, none⟩)]) rfl (.tmp 10) (.const (.int .i64 15)) (.tmp 26) (.inl rfl) under_map under_int rfl rfl HB.out.1 rfl ?_; intro wn hm hf; have HB1 := hid (⟨hm, HB.out.2.trans hf (fun _ _ h => h)⟩ : _ ∧ Fr (fun x => x = w.heap.size + 1 + 1) w0 wn); clear HB hm hf; have HB := HB1; clear HB1) | (refine wpList_insert (n := 16) (u := .func (.func 116) #[] #[.pointer (some ⟨w.heap.size, 0, none⟩), .pointer (some ⟨w.heap.size + 1, 0, none⟩)]) rfl (.tmp 10) (.const (.int .i64 16)) (.tmp 27) (.inl rfl) under_map under_int rfl rfl HB.out.1 rfl ?_; intro wn hm hf; have HB1 := hid (⟨hm, HB.out.2.trans hf (fun _ _ h => h)⟩ : _ ∧ Fr (fun x => x = w.heap.size + 1 + 1) w0 wn); clear HB hm hf; have HB := HB1; clear HB1) | (refine wpList_insert (n := 17) (u := .func (.func 117) #[] #[.pointer (some ⟨w.heap.size, 0, none⟩), .pointer (some ⟨w.heap.size + 1, 0, none⟩)]) rfl (.tmp 10) (.const (.int .i64 17)) (.tmp 28) (.inl rfl) under_map under_int rfl rfl HB.out.1 rfl ?_; intro wn hm hf; have HB1 := hid (⟨hm, HB.out.2.trans hf (fun _ _ h => h)⟩ : _ ∧ Fr (fun x => x = w.heap.size + 1 + 1) w0 wn); clear HB hm hf; have HB := HB1; clear HB1) | (refine wpList_insert (n := 18) (u := .func (.func 118) #[] #[.pointer (some ⟨w.heap.size, 0, none⟩), .pointer (some ⟨w.heap.size + 1, 0, none⟩)]) rfl (.tmp 10) (.const (.int .i64 18)) (.tmp 29) (.inl rfl) under_map under_int rfl rfl HB.out.1 rfl ?_; intro wn hm hf; have HB1 := hid (⟨hm, HB.out.2.trans hf (fun _ _ h => h)⟩ : _ ∧ Fr (fun x => x = w.heap.size + 1 + 1) w0 wn); clear HB hm hf; have HB := HB1; clear HB1) | still_step | (with_reducible first | refine wpStill_nil ?_ | refine Flow.Both.mk ?_ ?_ | exact True.intro) | (with_reducible refine Flow.same_mk rfl rfl rfl ?_; go_simp; done) | (with_reducible exact Flow.same_un rfl rfl rfl) | (refine Flow.region_still mixed ?hB ?_; (case hB => decide +kernel)))
  have hl := run_look under_map under_int HB.out.1 op (run_zero zero_fn wn) true
  have ca' := HB.out.2.cell ca (by simp; omega)
  have cb' := HB.out.2.cell cb (by simp)
  have HF1 := hid (HF.out.trans HB.out.2 (fun k hk h => by (first | omega | (dsimp only at h ⊢; omega) | (dsimp only at h; omega) | (dsimp only; omega) | (simp at h ⊢; omega) | (simp at h; omega) | (rcases h with h | h <;> first | exact h.elim | (dsimp only at h ⊢; omega) | (dsimp only at h; omega) | omega))))
  clear HB HF ca cb hw0
  by_cases hin : 0 ≤ op ∧ op < 19
  · obtain rfl | rfl | rfl | rfl | rfl | rfl | rfl | rfl | rfl | rfl | rfl | rfl | rfl | rfl | rfl | rfl | rfl | rfl | rfl : op = 0 ∨ op = 1 ∨ op = 2 ∨ op = 3 ∨ op = 4 ∨ op = 5 ∨ op = 6 ∨ op = 7 ∨ op = 8 ∨ op = 9 ∨ op = 10 ∨ op = 11 ∨ op = 12 ∨ op = 13 ∨ op = 14 ∨ op = 15 ∨ op = 16 ∨ op = 17 ∨ op = 18 := by omega
    · have hr : r = opZ 0 a b := hr
      subst hr
      simp [upd] at hl
      rw [hl]
      simp only [Result.andThen, Oper.upon]
      go_wp2_with (first | (go_at_call 98; refine (cl1 _ _ a b _ ca' cb').mono ?_; rintro e w5 ⟨rfl, hf⟩) | still_step | (with_reducible first | refine wpStill_nil ?_ | refine Flow.Both.mk ?_ ?_ | exact True.intro) | (with_reducible refine Flow.same_mk rfl rfl rfl ?_; go_simp; done) | (with_reducible exact Flow.same_un rfl rfl rfl) | (refine Flow.region_still mixed ?hB ?_; (case hB => decide +kernel)))
      go_ret
      exact ⟨rfl, HF1.out.trans hf (fun k hk h => h)⟩
    · have hr : r = opZ 1 a b := hr
      subst hr
      simp [upd] at hl
      rw [hl]
      simp only [Result.andThen, Oper.upon]
      go_wp2_with (first | (go_at_call 99; refine (cl2 _ _ a b _ ca' cb').mono ?_; rintro e w5 ⟨rfl, hf⟩) | still_step | (with_reducible first | refine wpStill_nil ?_ | refine Flow.Both.mk ?_ ?_ | exact True.intro) | (with_reducible refine Flow.same_mk rfl rfl rfl ?_; go_simp; done) | (with_reducible exact Flow.same_un rfl rfl rfl) | (refine Flow.region_still mixed ?hB ?_; (case hB => decide +kernel)))
      go_ret
      exact ⟨rfl, HF1.out.trans hf (fun k hk h => h)⟩
    · have hr : r = opZ 2 a b := hr
      subst hr
      simp [upd] at hl
      rw [hl]
      simp only [Result.andThen, Oper.upon]
      go_wp2_with (first | (go_at_call 100; refine (cl3 _ _ a b _ ca' cb').mono ?_; rintro e w5 ⟨rfl, hf⟩) | still_step | (with_reducible first | refine wpStill_nil ?_ | refine Flow.Both.mk ?_ ?_ | exact True.intro) | (with_reducible refine Flow.same_mk rfl rfl rfl ?_; go_simp; done) | (with_reducible exact Flow.same_un rfl rfl rfl) | (refine Flow.region_still mixed ?hB ?_; (case hB => decide +kernel)))
      go_ret
      exact ⟨rfl, HF1.out.trans hf (fun k hk h => h)⟩
    · have hr : r = opZ 3 a b := hr
      subst hr
      simp [upd] at hl
      rw [hl]
      simp only [Result.andThen, Oper.upon]
      go_wp2_with (first | (go_at_call 101; refine (cl4 _ _ a b _ ca' cb').mono ?_; rintro e w5 ⟨rfl, hf⟩) | still_step | (with_reducible first | refine wpStill_nil ?_ | refine Flow.Both.mk ?_ ?_ | exact True.intro) | (with_reducible refine Flow.same_mk rfl rfl rfl ?_; go_simp; done) | (with_reducible exact Flow.same_un rfl rfl rfl) | (refine Flow.region_still mixed ?hB ?_; (case hB => decide +kernel)))
      go_ret
      exact ⟨rfl, HF1.out.trans hf (fun k hk h => h)⟩
    · have hr : r = opZ 4 a b := hr
      subst hr
      simp [upd] at hl
      rw [hl]
      simp only [Result.andThen, Oper.upon]
      go_wp2_with (first | (go_at_call 103; refine (cl5 _ _ a b _ ca' cb').mono ?_; rintro e w5 ⟨rfl, hf⟩) | still_step | (with_reducible first | refine wpStill_nil ?_ | refine Flow.Both.mk ?_ ?_ | exact True.intro) | (with_reducible refine Flow.same_mk rfl rfl rfl ?_; go_simp; done) | (with_reducible exact Flow.same_un rfl rfl rfl) | (refine Flow.region_still mixed ?hB ?_; (case hB => decide +kernel)))
      go_ret
      exact ⟨rfl, HF1.out.trans hf (fun k hk h => h)⟩
    · have hr : r = opZ 5 a b := hr
      subst hr
      simp [upd] at hl
      rw [hl]
      simp only [Result.andThen, Oper.upon]
      go_wp2_with (first | (go_at_call 104; refine (cl6 _ _ a b _ ca' cb').mono ?_; rintro e w5 ⟨rfl, hf⟩) | still_step | (with_reducible first | refine wpStill_nil ?_ | refine Flow.Both.mk ?_ ?_ | exact True.intro) | (with_reducible refine Flow.same_mk rfl rfl rfl ?_; go_simp; done) | (with_reducible exact Flow.same_un rfl rfl rfl) | (refine Flow.region_still mixed ?hB ?_; (case hB => decide +kernel)))
      go_ret
      exact ⟨rfl, HF1.out.trans hf (fun k hk h => h)⟩
    · have hr : r = opZ 6 a b := hr
      subst hr
      simp [upd] at hl
      rw [hl]
      simp only [Result.andThen, Oper.upon]
      go_wp2_with (first | (go_at_call 105; refine (cl7 _ _ a b _ ca' cb').mono ?_; rintro e w5 ⟨rfl, hf⟩) | still_step | (with_reducible first | refine wpStill_nil ?_ | refine Flow.Both.mk ?_ ?_ | exact True.intro) | (with_reducible refine Flow.same_mk rfl rfl rfl ?_; go_simp; done) | (with_reducible exact Flow.same_un rfl rfl rfl) | (refine Flow.region_still mixed ?hB ?_; (case hB => decide +kernel)))
      go_ret
      exact ⟨rfl, HF1.out.trans hf (fun k hk h => h)⟩
    · have hr : r = opZ 7 a b := hr
      subst hr
      simp [upd] at hl
      rw [hl]
      simp only [Result.andThen, Oper.upon]
      go_wp2_with (first | (go_at_call 106; refine (cl8 _ _ a b _ ca' cb').mono ?_; rintro e w5 ⟨rfl, hf⟩) | still_step | (with_reducible first | refine wpStill_nil ?_ | refine Flow.Both.mk ?_ ?_ | exact True.intro) | (with_reducible refine Flow.same_mk rfl rfl rfl ?_; go_simp; done) | (with_reducible exact Flow.same_un rfl rfl rfl) | (refine Flow.region_still mixed ?hB ?_; (case hB => decide +kernel)))
      go_ret
      exact ⟨rfl, HF1.out.trans hf (fun k hk h => h)⟩
    · have hr : r = opZ 8 a b := hr
      subst hr
      simp [upd] at hl
      rw [hl]
      simp only [Result.andThen, Oper.upon]
      go_wp2_with (first | (go_at_call 107; refine (cl9 _ _ a b _ ca' cb').mono ?_; rintro e w5 ⟨rfl, hf⟩) | still_step | (with_reducible first | refine wpStill_nil ?_ | refine Flow.Both.mk ?_ ?_ | exact True.intro) | (with_reducible refine Flow.same_mk rfl rfl rfl ?_; go_simp; done) | (with_reducible exact Flow.same_un rfl rfl rfl) | (refine Flow.region_still mixed ?hB ?_; (case hB => decide +kernel)))
      go_ret
      exact ⟨rfl, HF1.out.trans hf (fun k hk h => h)⟩
    · have hr : r = opZ 9 a b := hr
      subst hr
      simp [upd] at hl
      rw [hl]
      simp only [Result.andThen, Oper.upon]
      go_wp2_with (first | (go_at_call 108; refine (cl10 _ _ a b _ ca' cb').mono ?_; rintro e w5 ⟨rfl, hf⟩) | still_step | (with_reducible first | refine wpStill_nil ?_ | refine Flow.Both.mk ?_ ?_ | exact True.intro) | (with_reducible refine Flow.same_mk rfl rfl rfl ?_; go_simp; done) | (with_reducible exact Flow.same_un rfl rfl rfl) | (refine Flow.region_still mixed ?hB ?_; (case hB => decide +kernel)))
      go_ret
      exact ⟨rfl, HF1.out.trans hf (fun k hk h => h)⟩
    · have hr : r = opZ 10 a b := hr
      subst hr
      simp [upd] at hl
      rw [hl]
      simp only [Result.andThen, Oper.upon]
      go_wp2_with (first | (go_at_call 109; refine (cl11 _ _ a b _ ca' cb').mono ?_; rintro e w5 ⟨rfl, hf⟩) | still_step | (with_reducible first | refine wpStill_nil ?_ | refine Flow.Both.mk ?_ ?_ | exact True.intro) | (with_reducible refine Flow.same_mk rfl rfl rfl ?_; go_simp; done) | (with_reducible exact Flow.same_un rfl rfl rfl) | (refine Flow.region_still mixed ?hB ?_; (case hB => decide +kernel)))
      go_ret
      exact ⟨rfl, HF1.out.trans hf (fun k hk h => h)⟩
    · have hr : r = opZ 11 a b := hr
      subst hr
      simp [upd] at hl
      rw [hl]
      simp only [Result.andThen, Oper.upon]
      go_wp2_with (first | (go_at_call 111; refine (cl12 _ _ a b _ ca' cb').mono ?_; rintro e w5 ⟨rfl, hf⟩) | still_step | (with_reducible first | refine wpStill_nil ?_ | refine Flow.Both.mk ?_ ?_ | exact True.intro) | (with_reducible refine Flow.same_mk rfl rfl rfl ?_; go_simp; done) | (with_reducible exact Flow.same_un rfl rfl rfl) | (refine Flow.region_still mixed ?hB ?_; (case hB => decide +kernel)))
      go_ret
      exact ⟨rfl, HF1.out.trans hf (fun k hk h => h)⟩
    · have hr : r = opZ 12 a b := hr
      subst hr
      simp [upd] at hl
      rw [hl]
      simp only [Result.andThen, Oper.upon]
      go_wp2_with (first | (go_at_call 112; refine (cl13 _ _ a b _ ca' cb').mono ?_; rintro e w5 ⟨rfl, hf⟩) | still_step | (with_reducible first | refine wpStill_nil ?_ | refine Flow.Both.mk ?_ ?_ | exact True.intro) | (with_reducible refine Flow.same_mk rfl rfl rfl ?_; go_simp; done) | (with_reducible exact Flow.same_un rfl rfl rfl) | (refine Flow.region_still mixed ?hB ?_; (case hB => decide +kernel)))
      go_ret
      exact ⟨rfl, HF1.out.trans hf (fun k hk h => h)⟩
    · have hr : r = opZ 13 a b := hr
      subst hr
      simp [upd] at hl
      rw [hl]
      simp only [Result.andThen, Oper.upon]
      go_wp2_with (first | (go_at_call 113; refine (cl14 _ _ a b _ ca' cb').mono ?_; rintro e w5 ⟨rfl, hf⟩) | still_step | (with_reducible first | refine wpStill_nil ?_ | refine Flow.Both.mk ?_ ?_ | exact True.intro) | (with_reducible refine Flow.same_mk rfl rfl rfl ?_; go_simp; done) | (with_reducible exact Flow.same_un rfl rfl rfl) | (refine Flow.region_still mixed ?hB ?_; (case hB => decide +kernel)))
      go_ret
      exact ⟨rfl, HF1.out.trans hf (fun k hk h => h)⟩
    · have hr : r = opZ 14 a b := hr
      subst hr
      simp [upd] at hl
      rw [hl]
      simp only [Result.andThen, Oper.upon]
      go_wp2_with (first | (go_at_call 114; refine (cl15 _ _ a b _ ca' cb').mono ?_; rintro e w5 ⟨rfl, hf⟩) | still_step | (with_reducible first | refine wpStill_nil ?_ | refine Flow.Both.mk ?_ ?_ | exact True.intro) | (with_reducible refine Flow.same_mk rfl rfl rfl ?_; go_simp; done) | (with_reducible exact Flow.same_un rfl rfl rfl) | (refine Flow.region_still mixed ?hB ?_; (case hB => decide +kernel)))
      go_ret
      exact ⟨rfl, HF1.out.trans hf (fun k hk h => h)⟩
    · have hr : r = opZ 15 a b := hr
      subst hr
      simp [upd] at hl
      rw [hl]
      simp only [Result.andThen, Oper.upon]
      go_wp2_with (first | (go_at_call 115; refine (cl16 _ _ a b _ ca' cb').mono ?_; rintro e w5 ⟨rfl, hf⟩) | still_step | (with_reducible first | refine wpStill_nil ?_ | refine Flow.Both.mk ?_ ?_ | exact True.intro) | (with_reducible refine Flow.same_mk rfl rfl rfl ?_; go_simp; done) | (with_reducible exact Flow.same_un rfl rfl rfl) | (refine Flow.region_still mixed ?hB ?_; (case hB => decide +kernel)))
      go_ret
      exact ⟨rfl, HF1.out.trans hf (fun k hk h => h)⟩
    · have hr : r = opZ 16 a b := hr
      subst hr
      simp [upd] at hl
      rw [hl]
      simp only [Result.andThen, Oper.upon]
      go_wp2_with (first | (go_at_call 116; refine (cl17 _ _ a b _ ca' cb').mono ?_; rintro e w5 ⟨rfl, hf⟩) | still_step | (with_reducible first | refine wpStill_nil ?_ | refine Flow.Both.mk ?_ ?_ | exact True.intro) | (with_reducible refine Flow.same_mk rfl rfl rfl ?_; go_simp; done) | (with_reducible exact Flow.same_un rfl rfl rfl) | (refine Flow.region_still mixed ?hB ?_; (case hB => decide +kernel)))
      go_ret
      exact ⟨rfl, HF1.out.trans hf (fun k hk h => h)⟩
    · have hr : r = opZ 17 a b := hr
      subst hr
      simp [upd] at hl
      rw [hl]
      simp only [Result.andThen, Oper.upon]
      go_wp2_with (first | (go_at_call 117; refine (cl18 _ _ a b _ ca' cb').mono ?_; rintro e w5 ⟨rfl, hf⟩) | still_step | (with_reducible first | refine wpStill_nil ?_ | refine Flow.Both.mk ?_ ?_ | exact True.intro) | (with_reducible refine Flow.same_mk rfl rfl rfl ?_; go_simp; done) | (with_reducible exact Flow.same_un rfl rfl rfl) | (refine Flow.region_still mixed ?hB ?_; (case hB => decide +kernel)))
      go_ret
      exact ⟨rfl, HF1.out.trans hf (fun k hk h => h)⟩
    · have hr : r = opZ 18 a b := hr
      subst hr
      simp [upd] at hl
      rw [hl]
      simp only [Result.andThen, Oper.upon]
      go_wp2_with (first | (go_at_call 118; refine (cl19 _ _ a b _ ca' cb').mono ?_; rintro e w5 ⟨rfl, hf⟩) | still_step | (with_reducible first | refine wpStill_nil ?_ | refine Flow.Both.mk ?_ ?_ | exact True.intro) | (with_reducible refine Flow.same_mk rfl rfl rfl ?_; go_simp; done) | (with_reducible exact Flow.same_un rfl rfl rfl) | (refine Flow.region_still mixed ?hB ?_; (case hB => decide +kernel)))
      go_ret
      exact ⟨rfl, HF1.out.trans hf (fun k hk h => h)⟩
  · have hr : r = 0 := by rw [hr]; unfold evalZ; rw [if_neg hin]
    subst hr
    have h0 : op ≠ 0 := by omega
    have h1 : op ≠ 1 := by omega
    have h2 : op ≠ 2 := by omega
    have h3 : op ≠ 3 := by omega
    have h4 : op ≠ 4 := by omega
    have h5 : op ≠ 5 := by omega
    have h6 : op ≠ 6 := by omega
    have h7 : op ≠ 7 := by omega
    have h8 : op ≠ 8 := by omega
    have h9 : op ≠ 9 := by omega
    have h10 : op ≠ 10 := by omega
    have h11 : op ≠ 11 := by omega
    have h12 : op ≠ 12 := by omega
    have h13 : op ≠ 13 := by omega
    have h14 : op ≠ 14 := by omega
    have h15 : op ≠ 15 := by omega
    have h16 : op ≠ 16 := by omega
    have h17 : op ≠ 17 := by omega
    have h18 : op ≠ 18 := by omega
    simp [upd, h0, h1, h2, h3, h4, h5, h6, h7, h8, h9, h10, h11, h12, h13, h14, h15, h16, h17, h18] at hl
    rw [hl]
    simp only [Result.andThen, Oper.upon]
    clear h0 h1 h2 h3 h4 h5 h6 h7 h8 h9 h10 h11 h12 h13 h14 h15 h16 h17 h18
    go_wp2_with (first | still_step | (with_reducible first | refine wpStill_nil ?_ | refine Flow.Both.mk ?_ ?_ | exact True.intro) | (with_reducible refine Flow.same_mk rfl rfl rfl ?_; go_simp; done) | (with_reducible exact Flow.same_un rfl rfl rfl) | (refine Flow.region_still mixed ?hB ?_; (case hB => decide +kernel)))
    go_ret
    exact ⟨rfl, HF1.out⟩

theorem eval_is (op a b : Int) (w : World) : Calls Try.prog 96 #[.int .i64 op, .int .i64 a, .int .i64 b] w fun e w' => e = .returned (.int .i64 (evalZ op a b)) ∧ Fr (fun _ => False) w w' := eval_r op a b _ rfl w
#print axioms eval_is
end Go.Proofs.Ytbfeopakmjcapaa
