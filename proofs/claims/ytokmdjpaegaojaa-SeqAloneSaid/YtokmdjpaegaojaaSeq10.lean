/-
  A run of package seq, with what it lies in alone; and the example that the laws ask for first.
-/
import Derived.Test.YtokmdjpaegaojaaSeq9
namespace Go.Proofs.Ytokmdjpaegaojaa.Seq
open Go.RowKit
attribute [local irreducible] wpStill wpList Calls CallsIn

/-- A run at block B, that lies in R. -/
def At (w : World) (R : Nat → Prop) (B : Nat) (m : M) : Prop := ∃ ob ids, RunRep w B R ids ob m

section
variable {w w1 : World} {R : Nat → Prop} {B : Nat} {m : M}
theorem At.fr {S : Nat → Prop} (h : At w R B m) (hf : Fr S w w1) (hn : ∀ k, R k → ¬ S k) : At w1 R B m := by
  obtain ⟨ob, ids, h⟩ := h
  exact ⟨ob, ids, h.fr hf hn⟩
theorem At.lt (h : At w R B m) : ∀ k, R k → k < w.heap.size := by
  obtain ⟨ob, ids, h⟩ := h
  exact h.lt
theorem At.inB (h : At w R B m) : R B := by
  obtain ⟨ob, ids, h⟩ := h
  exact h.inB
theorem turn_at (h : At w R B m) (who fuel : Int) (hfu : fuel < 9223372036854775807) :
    Calls Try.prog 9 #[.pointer (some ⟨B, 0, none⟩), .int .i64 who, .int .i64 fuel] w fun e w' => e = .returned (.tuple #[evV (m.turn who fuel).2.1, .int .i64 (m.turn who fuel).2.2]) ∧ At w' R B (m.turn who fuel).1 ∧ Fr R w w' := by
  obtain ⟨ob, ids, h⟩ := h
  refine (turn_is B ob R ids m who fuel w h hfu).mono ?_
  rintro e w' ⟨h1, h2, h3⟩
  exact ⟨h1, ⟨ob, ids, h2⟩, h3⟩
theorem memory_at (h : At w R B m) (hn : m.mem.length ≤ 1000) :
    Calls Try.prog 11 #[.pointer (some ⟨B, 0, none⟩)] w fun e w' => ∃ a c, e = .returned (.slice a m.mem.length c) ∧ OwnAt w' 2 1 (fun k => w.heap.size ≤ k) a m.mem.length c (ints m.mem) ∧ Fr (fun _ => False) w w' := by
  obtain ⟨ob, ids, h⟩ := h
  exact memory_is B ob R ids m w h hn
theorem place_at (h : At w R B m) (who : Int) : Calls Try.prog 12 #[.pointer (some ⟨B, 0, none⟩), .int .i64 who] w fun e w' => e = .returned (.int .i64 (m.place who)) ∧ Fr (fun _ => False) w w' := by
  obtain ⟨ob, ids, h⟩ := h
  exact place_is B ob R ids m who w h
theorem reg_at (h : At w R B m) (who n : Int) : Calls Try.prog 13 #[.pointer (some ⟨B, 0, none⟩), .int .i64 who, .int .i64 n] w fun e w' => e = .returned (.int .i64 (m.reg who n)) ∧ Fr (fun _ => False) w w' := by
  obtain ⟨ob, ids, h⟩ := h
  exact reg_is B ob R ids m who n w h
theorem owner_at (h : At w R B m) (n : Int) : Calls Try.prog 14 #[.pointer (some ⟨B, 0, none⟩), .int .i64 n] w fun e w' => e = .returned (.int .i64 ((m.owner n).getD (-1))) ∧ Fr (fun _ => False) w w' := by
  obtain ⟨ob, ids, h⟩ := h
  exact owner_is B ob R ids m n w h
end

theorem new_at (Rc Rm : Nat → Prop) (ao am : Option Addr) (co cm : Nat) (qs : List ((Option Addr × Nat) × List Ins)) (mem : List Int) (w : World) (hc : Codes w Rc ao qs) (hm : Vw w 1 Rm am mem.length (ints mem)) (hmn : am = none → mem.length = 0)
    (hq : qs.length ≤ 1000) (hl : mem.length ≤ 1000) (hi : ∀ q ∈ qs, q.2.length ≤ 1000) :
    Calls Try.prog 8 #[.slice ao qs.length co, .slice am mem.length cm] w fun e w' => ∃ B, e = .returned (.pointer (some ⟨B, 0, none⟩)) ∧ At w' (fun k => w.heap.size ≤ k ∧ k < w'.heap.size) B (start (qs.map (·.2)) mem) ∧ Fr (fun _ => False) w w' := by
  refine (new_is Rc Rm ao am co cm qs mem w hc hm hmn hq hl hi).mono ?_
  rintro e w' ⟨B, ob, ids, h1, h2, h3⟩
  exact ⟨B, h1, ⟨ob, ids, h2⟩, h3⟩

def code0 : List Ins := [⟨0, 0, 0, 0, 0, 5, 0⟩, ⟨11, 0, 0, 0, 0, 0, 0⟩, ⟨13, 0, 0, 0, 0, 0, 0⟩]
def code1 : List Ins := [⟨4, 0, 1, -1, 0, 1, 0⟩, ⟨5, 0, 0, -1, 1, 0, 0⟩, ⟨9, 0, 0, 0, 0, 3, 0⟩]
def m0 : M := start [code0, code1] [0, 8]
def m1 : M := (m0.turn 0 2).1
def m2 : M := (m1.turn 0 2).1
def m3 : M := (m2.turn 0 2).1
def m4 : M := (m3.turn 1 2).1
def m5 : M := (m4.turn 1 2).1
theorem t0 : (m0.turn 0 2).2 = (⟨0, 0, 5⟩, 0) := by decide +kernel
theorem t1 : (m1.turn 0 2).2 = (⟨4, 0, 0⟩, 0) := by decide +kernel
theorem t2 : (m2.turn 0 2).2 = (⟨0, 0, 0⟩, 2) := by decide +kernel
theorem t3 : (m3.turn 1 2).2 = (⟨0, 0, 0⟩, 3) := by decide +kernel
theorem t4 : (m4.turn 1 2).2 = (⟨1, 1, 3⟩, 0) := by decide +kernel
theorem t5 : m5.mem = [8, 8] ∧ (m5.owner 3).getD (-1) = 1 ∧ m5.reg 1 1 = 8 ∧ m5.place 1 = 3 := by decide +kernel

set_option maxHeartbeats 4000000 in
set_option maxRecDepth 100000 in
theorem awake_true (w : World) : Calls Try.prog 6 #[] w fun e w' => e = .returned (.bool true) ∧ Fr (fun _ => False) w w' := by
  go_enter Try.func6, Try.ntmps6
  go_wp2_with (first | fail | still_step | (with_reducible refine wpStill_nil ?_) | (with_reducible refine Flow.Both.mk ?_ ?_) | (with_reducible exact True.intro) | (with_reducible refine Flow.same_mk rfl rfl rfl ?_; go_simp; done) | (with_reducible exact Flow.same_un rfl rfl rfl) | (refine Flow.region_still mixed ?hB ?_; (case hB => decide +kernel)))
  refine (new_at (fun _ => True) (fun _ => True) (some ⟨w.heap.size + 1 + 1, 0, none⟩) (some ⟨w.heap.size + 1 + 1 + 1, 0, none⟩) 2 2 [((some ⟨w.heap.size, 0, none⟩, 3), code0), ((some ⟨w.heap.size + 1, 0, none⟩, 3), code1)] [0, 8] _ ?hc ?hm (fun h => by cases h) (by simp) (by simp) ?hi).mono ?hk
  case hc =>
    refine ⟨Vw.of_blk (C := #[Value.slice (some ⟨w.heap.size, 0, none⟩) 3 3, Value.slice (some ⟨w.heap.size + 1, 0, none⟩) 3 3]) (T := 40) ?_ True.intro rfl, ?_⟩
    · have := (Blk.new ((w.alloc (.cells (codeC code0).toArray 42)).alloc (.cells (codeC code1).toArray 42)) #[Value.slice (some ⟨w.heap.size, 0, none⟩) 3 3, Value.slice (some ⟨w.heap.size + 1, 0, none⟩) 3 3] 40).alloc (.cells #[.int .i64 0, .int .i64 8] 2)
      simp only [World.size_alloc] at this
      exact this
    · intro q hq
      rcases List.mem_cons.1 hq with rfl | hq
      · refine ⟨Vw.of_blk (C := (codeC code0).toArray) (T := 42) ?_ True.intro rfl, fun h => by cases h⟩
        exact (((Blk.new w (codeC code0).toArray 42).alloc _).alloc _).alloc _
      · obtain rfl := List.mem_singleton.1 hq
        refine ⟨Vw.of_blk (C := (codeC code1).toArray) (T := 42) ?_ True.intro rfl, fun h => by cases h⟩
        have := ((Blk.new (w.alloc (.cells (codeC code0).toArray 42)) (codeC code1).toArray 42).alloc (.cells #[Value.slice (some ⟨w.heap.size, 0, none⟩) 3 3, Value.slice (some ⟨w.heap.size + 1, 0, none⟩) 3 3] 40)).alloc (.cells #[.int .i64 0, .int .i64 8] 2)
        simp only [World.size_alloc] at this
        exact this
  case hm =>
    refine Vw.of_blk (C := #[.int .i64 0, .int .i64 8]) (T := 2) ?_ True.intro rfl
    have := Blk.new (((w.alloc (.cells (codeC code0).toArray 42)).alloc (.cells (codeC code1).toArray 42)).alloc (.cells #[Value.slice (some ⟨w.heap.size, 0, none⟩) 3 3, Value.slice (some ⟨w.heap.size + 1, 0, none⟩) 3 3] 40)) #[.int .i64 0, .int .i64 8] 2
    simp only [World.size_alloc] at this
    exact this
  case hi =>
    intro q hq
    rcases List.mem_cons.1 hq with rfl | hq
    · show code0.length ≤ 1000; decide
    · obtain rfl := List.mem_singleton.1 hq
      show code1.length ≤ 1000; decide
  case hk =>
    rintro e w1 ⟨B, rfl, hr, hf⟩
    obtain ⟨R, hR⟩ : ∃ R : Nat → Prop, R = (fun k => w.heap.size + 1 + 1 + 1 + 1 ≤ k ∧ k < w1.heap.size) := ⟨_, rfl⟩
    have HRZ := hid (show ∀ k, R k → w.heap.size ≤ k from fun k hk => by rw [hR] at hk; omega)
    have HR : Hid (At w1 R B m0) := hid (by rw [hR]; simp only [World.size_alloc] at hr; exact hr)
    have HF := hid (show Fr (fun _ => False) w w1 from (show Fr (fun _ => False) w _ by (repeat' (first | with_reducible exact Fr.refl _ _ | with_reducible apply Fr.alloc | with_reducible apply Fr.drew | with_reducible apply Fr.drewN | (with_reducible refine Fr.setCell ?_ ?_ _)))).trans hf (fun _ _ h => h))
    clear hr hf hR
    go_wp2_with (first | fail | still_step | (with_reducible refine wpStill_nil ?_) | (with_reducible refine Flow.Both.mk ?_ ?_) | (with_reducible exact True.intro) | (with_reducible refine Flow.same_mk rfl rfl rfl ?_; go_simp; done) | (with_reducible exact Flow.same_un rfl rfl rfl) | (refine Flow.region_still mixed ?hB ?_; (case hB => decide +kernel)))
    have HRT := hid (show ∀ k, R k → k < w1.heap.size from HR.out.lt)
    go_at_call 9
    refine (turn_at (HR.out.fr (S := fun _ => False) (by (repeat' (first | with_reducible exact Fr.refl _ _ | with_reducible apply Fr.alloc | with_reducible apply Fr.drew | with_reducible apply Fr.drewN | (with_reducible refine Fr.setCell ?_ ?_ _)))) (fun _ _ h => h)) 0 2 (by decide)).mono ?_
    rintro e v1 ⟨rfl, hr, hf⟩
    rw [show ((m0).turn 0 2).2.1 = _ from congrArg Prod.fst t0, show ((m0).turn 0 2).2.2 = _ from congrArg Prod.snd t0]
    dsimp only [evV]
    have HF2 := hid ((HF.out.trans (S := fun _ => False) (S2 := fun _ => False) (by (repeat' (first | with_reducible exact Fr.refl _ _ | with_reducible apply Fr.alloc | with_reducible apply Fr.drew | with_reducible apply Fr.drewN | (with_reducible refine Fr.setCell ?_ ?_ _)))) (fun _ _ h => h)).trans (S := fun _ => False) hf (fun k hk h => by have := HRZ.out k h; omega))
    have HR2 : Hid (At v1 R B m1) := hid hr
    have z1 : w1.heap.size ≤ v1.heap.size := hf.size
    clear HR HF hr hf
    have HR := hid HR2.out
    have HF := hid HF2.out
    clear HR2 HF2
    go_wp2_with (first | fail | still_step | (with_reducible refine wpStill_nil ?_) | (with_reducible refine Flow.Both.mk ?_ ?_) | (with_reducible exact True.intro) | (with_reducible refine Flow.same_mk rfl rfl rfl ?_; go_simp; done) | (with_reducible exact Flow.same_un rfl rfl rfl) | (refine Flow.region_still mixed ?hB ?_; (case hB => decide +kernel)))
    go_at_call 9
    refine (turn_at (HR.out.fr (S := fun _ => False) (by (repeat' (first | with_reducible exact Fr.refl _ _ | with_reducible apply Fr.alloc | with_reducible apply Fr.drew | with_reducible apply Fr.drewN | (with_reducible refine Fr.setCell ?_ ?_ _)))) (fun _ _ h => h)) 0 2 (by decide)).mono ?_
    rintro e v2 ⟨rfl, hr, hf⟩
    rw [show ((m1).turn 0 2).2.1 = _ from congrArg Prod.fst t1, show ((m1).turn 0 2).2.2 = _ from congrArg Prod.snd t1]
    dsimp only [evV]
    have HF2 := hid ((HF.out.trans (S := fun _ => False) (S2 := fun _ => False) (by (repeat' (first | with_reducible exact Fr.refl _ _ | with_reducible apply Fr.alloc | with_reducible apply Fr.drew | with_reducible apply Fr.drewN | (with_reducible refine Fr.setCell ?_ ?_ _)))) (fun _ _ h => h)).trans (S := fun _ => False) hf (fun k hk h => by have := HRZ.out k h; omega))
    have HR2 : Hid (At v2 R B m2) := hid hr
    have z2 : w1.heap.size ≤ v2.heap.size := Nat.le_trans (Nat.le_trans z1 (by simp)) hf.size
    have HE1 := hid ((Blk.new v1 #[.int .i64 0, .int .i64 0, .int .i64 5] 32).fr hf (fun h => by have := HRT.out _ h; omega))
    have y1 : v1.heap.size < v2.heap.size := HE1.out.lt
    clear HR HF hr hf
    have HR := hid HR2.out
    have HF := hid HF2.out
    clear HR2 HF2
    go_wp2_with (first | fail | still_step | (with_reducible refine wpStill_nil ?_) | (with_reducible refine Flow.Both.mk ?_ ?_) | (with_reducible exact True.intro) | (with_reducible refine Flow.same_mk rfl rfl rfl ?_; go_simp; done) | (with_reducible exact Flow.same_un rfl rfl rfl) | (refine Flow.region_still mixed ?hB ?_; (case hB => decide +kernel)))
    go_at_call 9
    refine (turn_at (HR.out.fr (S := fun _ => False) (by (repeat' (first | with_reducible exact Fr.refl _ _ | with_reducible apply Fr.alloc | with_reducible apply Fr.drew | with_reducible apply Fr.drewN | (with_reducible refine Fr.setCell ?_ ?_ _)))) (fun _ _ h => h)) 0 2 (by decide)).mono ?_
    rintro e v3 ⟨rfl, hr, hf⟩
    rw [show ((m2).turn 0 2).2.1 = _ from congrArg Prod.fst t2, show ((m2).turn 0 2).2.2 = _ from congrArg Prod.snd t2]
    dsimp only [evV]
    have HF2 := hid ((HF.out.trans (S := fun _ => False) (S2 := fun _ => False) (by (repeat' (first | with_reducible exact Fr.refl _ _ | with_reducible apply Fr.alloc | with_reducible apply Fr.drew | with_reducible apply Fr.drewN | (with_reducible refine Fr.setCell ?_ ?_ _)))) (fun _ _ h => h)).trans (S := fun _ => False) hf (fun k hk h => by have := HRZ.out k h; omega))
    have HR2 : Hid (At v3 R B m3) := hid hr
    have z3 : w1.heap.size ≤ v3.heap.size := Nat.le_trans (Nat.le_trans z2 (by simp)) hf.size
    have HE1n := hid ((HE1.out.alloc _).fr hf (fun h => by have := HRT.out _ h; omega))
    clear HE1
    have HE1 := hid HE1n.out
    clear HE1n
    have HE2 := hid ((Blk.new v2 #[.int .i64 4, .int .i64 0, .int .i64 0] 32).fr hf (fun h => by have := HRT.out _ h; omega))
    have y2 : v2.heap.size < v3.heap.size := HE2.out.lt
    clear HR HF hr hf
    have HR := hid HR2.out
    have HF := hid HF2.out
    clear HR2 HF2
    go_wp2_with (first | fail | still_step | (with_reducible refine wpStill_nil ?_) | (with_reducible refine Flow.Both.mk ?_ ?_) | (with_reducible exact True.intro) | (with_reducible refine Flow.same_mk rfl rfl rfl ?_; go_simp; done) | (with_reducible exact Flow.same_un rfl rfl rfl) | (refine Flow.region_still mixed ?hB ?_; (case hB => decide +kernel)))
    go_at_call 9
    refine (turn_at (HR.out.fr (S := fun _ => False) (by (repeat' (first | with_reducible exact Fr.refl _ _ | with_reducible apply Fr.alloc | with_reducible apply Fr.drew | with_reducible apply Fr.drewN | (with_reducible refine Fr.setCell ?_ ?_ _)))) (fun _ _ h => h)) 1 2 (by decide)).mono ?_
    rintro e v4 ⟨rfl, hr, hf⟩
    rw [show ((m3).turn 1 2).2.1 = _ from congrArg Prod.fst t3, show ((m3).turn 1 2).2.2 = _ from congrArg Prod.snd t3]
    dsimp only [evV]
    have HF2 := hid ((HF.out.trans (S := fun _ => False) (S2 := fun _ => False) (by (repeat' (first | with_reducible exact Fr.refl _ _ | with_reducible apply Fr.alloc | with_reducible apply Fr.drew | with_reducible apply Fr.drewN | (with_reducible refine Fr.setCell ?_ ?_ _)))) (fun _ _ h => h)).trans (S := fun _ => False) hf (fun k hk h => by have := HRZ.out k h; omega))
    have HR2 : Hid (At v4 R B m4) := hid hr
    have z4 : w1.heap.size ≤ v4.heap.size := Nat.le_trans (Nat.le_trans z3 (by simp)) hf.size
    have HE1n := hid ((HE1.out.alloc _).fr hf (fun h => by have := HRT.out _ h; omega))
    clear HE1
    have HE1 := hid HE1n.out
    clear HE1n
    have HE2n := hid ((HE2.out.alloc _).fr hf (fun h => by have := HRT.out _ h; omega))
    clear HE2
    have HE2 := hid HE2n.out
    clear HE2n
    have HE3 := hid ((Blk.new v3 #[.int .i64 0, .int .i64 0, .int .i64 0] 32).fr hf (fun h => by have := HRT.out _ h; omega))
    have y3 : v3.heap.size < v4.heap.size := HE3.out.lt
    clear HR HF hr hf
    have HR := hid HR2.out
    have HF := hid HF2.out
    clear HR2 HF2
    go_wp2_with (first | fail | still_step | (with_reducible refine wpStill_nil ?_) | (with_reducible refine Flow.Both.mk ?_ ?_) | (with_reducible exact True.intro) | (with_reducible refine Flow.same_mk rfl rfl rfl ?_; go_simp; done) | (with_reducible exact Flow.same_un rfl rfl rfl) | (refine Flow.region_still mixed ?hB ?_; (case hB => decide +kernel)))
    go_at_call 9
    refine (turn_at (HR.out.fr (S := fun _ => False) (by (repeat' (first | with_reducible exact Fr.refl _ _ | with_reducible apply Fr.alloc | with_reducible apply Fr.drew | with_reducible apply Fr.drewN | (with_reducible refine Fr.setCell ?_ ?_ _)))) (fun _ _ h => h)) 1 2 (by decide)).mono ?_
    rintro e v5 ⟨rfl, hr, hf⟩
    rw [show ((m4).turn 1 2).2.1 = _ from congrArg Prod.fst t4, show ((m4).turn 1 2).2.2 = _ from congrArg Prod.snd t4]
    dsimp only [evV]
    have HF2 := hid ((HF.out.trans (S := fun _ => False) (S2 := fun _ => False) (by (repeat' (first | with_reducible exact Fr.refl _ _ | with_reducible apply Fr.alloc | with_reducible apply Fr.drew | with_reducible apply Fr.drewN | (with_reducible refine Fr.setCell ?_ ?_ _)))) (fun _ _ h => h)).trans (S := fun _ => False) hf (fun k hk h => by have := HRZ.out k h; omega))
    have HR2 : Hid (At v5 R B m5) := hid hr
    have z5 : w1.heap.size ≤ v5.heap.size := Nat.le_trans (Nat.le_trans z4 (by simp)) hf.size
    have HE1n := hid ((HE1.out.alloc _).fr hf (fun h => by have := HRT.out _ h; omega))
    clear HE1
    have HE1 := hid HE1n.out
    clear HE1n
    have HE2n := hid ((HE2.out.alloc _).fr hf (fun h => by have := HRT.out _ h; omega))
    clear HE2
    have HE2 := hid HE2n.out
    clear HE2n
    have HE3n := hid ((HE3.out.alloc _).fr hf (fun h => by have := HRT.out _ h; omega))
    clear HE3
    have HE3 := hid HE3n.out
    clear HE3n
    have HE4 := hid ((Blk.new v4 #[.int .i64 0, .int .i64 0, .int .i64 0] 32).fr hf (fun h => by have := HRT.out _ h; omega))
    have y4 : v4.heap.size < v5.heap.size := HE4.out.lt
    clear HR HF hr hf
    have HR := hid HR2.out
    have HF := hid HF2.out
    clear HR2 HF2
    have HE5 := hid (Blk.new v5 #[.int .i64 1, .int .i64 1, .int .i64 3] 32)
    have a0 : (v5.alloc (.cells #[.int .i64 1, .int .i64 1, .int .i64 3] 32)).cell? ⟨v1.heap.size, 0, none⟩ = _ := (HE1.out.alloc _).cell 0
    have a1 : (v5.alloc (.cells #[.int .i64 1, .int .i64 1, .int .i64 3] 32)).cell? ⟨v1.heap.size, 1, none⟩ = _ := (HE1.out.alloc _).cell 1
    have a2 : (v5.alloc (.cells #[.int .i64 1, .int .i64 1, .int .i64 3] 32)).cell? ⟨v1.heap.size, 2, none⟩ = _ := (HE1.out.alloc _).cell 2
    have b0 : (v5.alloc (.cells #[.int .i64 1, .int .i64 1, .int .i64 3] 32)).cell? ⟨v2.heap.size, 0, none⟩ = _ := (HE2.out.alloc _).cell 0
    obtain ⟨x1, x2, x3, x4⟩ := t5
    have HRe := hid (HR.out.fr (S := fun _ => False) (show Fr (fun _ => False) v5 (v5.alloc (.cells #[.int .i64 1, .int .i64 1, .int .i64 3] 32)) by (repeat' (first | with_reducible exact Fr.refl _ _ | with_reducible apply Fr.alloc | with_reducible apply Fr.drew | with_reducible apply Fr.drewN | (with_reducible refine Fr.setCell ?_ ?_ _)))) (fun _ _ h => h))
    have HFe := hid (HF.out.trans (S := fun _ => False) (S2 := fun _ => False) (show Fr (fun _ => False) v5 (v5.alloc (.cells #[.int .i64 1, .int .i64 1, .int .i64 3] 32)) by (repeat' (first | with_reducible exact Fr.refl _ _ | with_reducible apply Fr.alloc | with_reducible apply Fr.drew | with_reducible apply Fr.drewN | (with_reducible refine Fr.setCell ?_ ?_ _)))) (fun _ _ h => h))
    clear HR HF
    go_wp2_with (first | fail | still_step | (with_reducible refine wpStill_nil ?_) | (with_reducible refine Flow.Both.mk ?_ ?_) | (with_reducible exact True.intro) | (with_reducible refine Flow.same_mk rfl rfl rfl ?_; go_simp; done) | (with_reducible exact Flow.same_un rfl rfl rfl) | (refine Flow.region_still mixed ?hB ?_; (case hB => decide +kernel)))
    go_at_call 14
    refine (owner_at HRe.out 3).mono ?_
    rintro e u1 ⟨rfl, hf⟩
    rw [x2]
    have HR1 := hid (HRe.out.fr hf (fun _ _ h => h))
    have HF1 := hid (HFe.out.trans hf (fun _ _ h => h))
    clear hf HRe HFe
    go_wp2_with (first | fail | still_step | (with_reducible refine wpStill_nil ?_) | (with_reducible refine Flow.Both.mk ?_ ?_) | (with_reducible exact True.intro) | (with_reducible refine Flow.same_mk rfl rfl rfl ?_; go_simp; done) | (with_reducible exact Flow.same_un rfl rfl rfl) | (refine Flow.region_still mixed ?hB ?_; (case hB => decide +kernel)))
    go_at_call 11
    refine (memory_at HR1.out (by rw [x1]; decide)).mono ?_
    rintro e u2 ⟨a, c, rfl, ho, hf⟩
    rw [x1] at ho
    rw [x1]
    have HO := hid ho
    have HR2 := hid (HR1.out.fr hf (fun _ _ h => h))
    have HF2 := hid (HF1.out.trans hf (fun _ _ h => h))
    clear hf HR1 HF1 ho
    go_wp2_with (first | fail | still_step | (with_reducible refine wpStill_nil ?_) | (with_reducible refine Flow.Both.mk ?_ ?_) | (with_reducible exact True.intro) | (with_reducible refine Flow.same_mk rfl rfl rfl ?_; go_simp; done) | (with_reducible exact Flow.same_un rfl rfl rfl) | (refine Flow.region_still mixed ?hB ?_; (case hB => decide +kernel)))
    go_at_call 10
    refine (numbers_is (fun k => u1.heap.size ≤ k) (fun _ => True) a (some ⟨u2.heap.size, 0, none⟩) c 2 [8, 8] [8, 8] _ (HO.out.fr (S := fun _ => False) (by (repeat' (first | with_reducible exact Fr.refl _ _ | with_reducible apply Fr.alloc | with_reducible apply Fr.drew | with_reducible apply Fr.drewN | (with_reducible refine Fr.setCell ?_ ?_ _)))) (fun _ _ h => h)).vw (Vw.of_blk (C := #[.int .i64 8, .int .i64 8]) (T := 2) (Blk.new u2 _ _) True.intro rfl) (by decide)).mono ?_
    rintro e u3 ⟨rfl, hf⟩
    rw [show decide ([(8 : Int), 8] = [8, 8]) = true from by decide]
    have HR3 := hid ((HR2.out.fr (S := fun _ => False) (by (repeat' (first | with_reducible exact Fr.refl _ _ | with_reducible apply Fr.alloc | with_reducible apply Fr.drew | with_reducible apply Fr.drewN | (with_reducible refine Fr.setCell ?_ ?_ _)))) (fun _ _ h => h)).fr hf (fun _ _ h => h))
    have HF3 := hid ((HF2.out.trans (S := fun _ => False) (S2 := fun _ => False) (by (repeat' (first | with_reducible exact Fr.refl _ _ | with_reducible apply Fr.alloc | with_reducible apply Fr.drew | with_reducible apply Fr.drewN | (with_reducible refine Fr.setCell ?_ ?_ _)))) (fun _ _ h => h)).trans hf (fun _ _ h => h))
    clear hf HR2 HF2 HO
    go_wp2_with (first | fail | still_step | (with_reducible refine wpStill_nil ?_) | (with_reducible refine Flow.Both.mk ?_ ?_) | (with_reducible exact True.intro) | (with_reducible refine Flow.same_mk rfl rfl rfl ?_; go_simp; done) | (with_reducible exact Flow.same_un rfl rfl rfl) | (refine Flow.region_still mixed ?hB ?_; (case hB => decide +kernel)))
    go_at_call 13
    refine (reg_at HR3.out 1 1).mono ?_
    rintro e u4 ⟨rfl, hf⟩
    rw [x3]
    have HR4 := hid (HR3.out.fr hf (fun _ _ h => h))
    have HF4 := hid (HF3.out.trans hf (fun _ _ h => h))
    clear hf HR3 HF3
    go_wp2_with (first | fail | still_step | (with_reducible refine wpStill_nil ?_) | (with_reducible refine Flow.Both.mk ?_ ?_) | (with_reducible exact True.intro) | (with_reducible refine Flow.same_mk rfl rfl rfl ?_; go_simp; done) | (with_reducible exact Flow.same_un rfl rfl rfl) | (refine Flow.region_still mixed ?hB ?_; (case hB => decide +kernel)))
    go_at_call 12
    refine (place_at HR4.out 1).mono ?_
    rintro e u5 ⟨rfl, hf⟩
    rw [x4]
    have HF5 := hid (HF4.out.trans hf (fun _ _ h => h))
    clear hf HR4 HF4
    go_wp2_with (first | fail | still_step | (with_reducible refine wpStill_nil ?_) | (with_reducible refine Flow.Both.mk ?_ ?_) | (with_reducible exact True.intro) | (with_reducible refine Flow.same_mk rfl rfl rfl ?_; go_simp; done) | (with_reducible exact Flow.same_un rfl rfl rfl) | (refine Flow.region_still mixed ?hB ?_; (case hB => decide +kernel)))
    go_ret
    exact ⟨rfl, HF5.out⟩
end Go.Proofs.Ytokmdjpaegaojaa.Seq
