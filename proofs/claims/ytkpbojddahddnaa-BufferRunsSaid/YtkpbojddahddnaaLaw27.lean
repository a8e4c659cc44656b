/-
  The example of layer 27 (awake) answers true.
-/
import Derived.Test.YtkpbojddahddnaaBuf5
namespace Go.Proofs.Ytkpbojddahddnaa
open Go.RowKit
attribute [local irreducible] wpStill wpList Calls CallsIn

/-- A script's steps, as cells. -/
def stp : List (Int × Int × Int) → List Value
  | [] => []
  | e :: r => .int .i64 e.1 :: .int .i64 e.2.1 :: .int .i64 e.2.2 :: stp r
theorem stp_length (l : List (Int × Int × Int)) : (stp l).length = l.length * 3 := by
  induction l with
  | nil => rfl
  | cons e r ih => simp [stp, ih, Nat.add_mul]
theorem stp_get (l : List (Int × Int × Int)) : ∀ (k : Nat) (h : k < l.length), (stp l)[k * 3]? = some (.int .i64 l[k].1) ∧ (stp l)[k * 3 + 1]? = some (.int .i64 l[k].2.1) ∧ (stp l)[k * 3 + 2]? = some (.int .i64 l[k].2.2) := by
  induction l with
  | nil => intro k h; simp at h
  | cons e l ih =>
    intro k h
    cases k with
    | zero => simp [stp]
    | succ k =>
      have := ih k (by simpa using h)
      rw [Nat.add_mul]
      simpa [stp] using this

theorem stp_of_rows (rows : List (List Int)) (h : ∀ r ∈ rows, r.length = 3) : ints rows.flatten = stp (rows.map fun r => (r.getD 0 0, r.getD 1 0, r.getD 2 0)) := by
  induction rows with
  | nil => rfl
  | cons r rows ih =>
    have h1 := h r (by simp)
    match r, h1 with
    | [a, b, c], _ =>
      have := ih (fun r hr => h r (by simp [hr]))
      simp [ints, stp] at this ⊢
      exact this

def came (l : List (Int × Int × Int)) : List (Int × Int) := l.map (·.2)

set_option maxHeartbeats 2000000 in
set_option maxRecDepth 100000 in
theorem awake_true (w : World) : Calls Try.prog 6 #[] w fun e w' => e = .returned (.bool true) ∧ Fr (fun _ => False) w w' := by
  go_enter Try.func6, Try.ntmps6
  go_wp2_with (first | fail | still_step | (with_reducible refine wpStill_nil ?_) | (with_reducible refine Flow.Both.mk ?_ ?_) | (with_reducible exact True.intro) | (with_reducible refine Flow.same_mk rfl rfl rfl ?_; go_simp; done) | (refine Flow.region_still mixed ?hB ?_; (case hB => decide +kernel)))
  refine (new_yes 2 _ (by omega) (by omega)).mono ?_
  rintro e w1 ⟨rfl, hb, hf⟩
  have HB := hid hb
  have HF := hid hf
  clear hb hf
  go_wp2_with (first | fail | still_step | (with_reducible refine wpStill_nil ?_) | (with_reducible refine Flow.Both.mk ?_ ?_) | (with_reducible exact True.intro) | (with_reducible refine Flow.same_mk rfl rfl rfl ?_; go_simp; done) | (refine Flow.region_still mixed ?hB ?_; (case hB => decide +kernel)))
  refine (new_no 0 _ (by omega)).mono ?_
  rintro e w2 ⟨rfl, hf⟩
  have HB2 := hid (HB.out.fr hf (fun h => h) (fun _ _ h => h))
  have HF2 := hid (HF.out.trans hf (fun _ _ h => h))
  clear hf HB HF
  go_wp2_with (first | fail | still_step | (with_reducible refine wpStill_nil ?_) | (with_reducible refine Flow.Both.mk ?_ ?_) | (with_reducible exact True.intro) | (with_reducible refine Flow.same_mk rfl rfl rfl ?_; go_simp; done) | (refine Flow.region_still mixed ?hB ?_; (case hB => decide +kernel)))
  refine (push_yes w.heap.size _ 2 [] 3 5 _ HB2.out (by simp)).mono ?_
  rintro e w3 ⟨rfl, hb, hf⟩
  have HB3 := hid (hb.mono (R2 := fun k => w.heap.size ≤ k ∧ k ≠ w.heap.size) (fun k _ h => by have := HB2.out.lt; (first | omega | (dsimp only at h ⊢; omega) | (dsimp only at h; omega) | (dsimp only; omega) | (simp at h ⊢; omega) | (simp at h; omega) | (rcases h with h | h <;> first | exact h.elim | (dsimp only at h ⊢; omega) | (dsimp only at h; omega) | omega))) (by (first | omega | (dsimp only at h ⊢; omega) | (dsimp only at h; omega) | (dsimp only; omega) | (simp at h ⊢; omega) | (simp at h; omega) | (rcases h with h | h <;> first | exact h.elim | (dsimp only at h ⊢; omega) | (dsimp only at h; omega) | omega))))
  have HF3 := hid (HF2.out.trans hf (fun k hk h => by (first | omega | (dsimp only at h ⊢; omega) | (dsimp only at h; omega) | (dsimp only; omega) | (simp at h ⊢; omega) | (simp at h; omega) | (rcases h with h | h <;> first | exact h.elim | (dsimp only at h ⊢; omega) | (dsimp only at h; omega) | omega))))
  clear hb hf HB2 HF2
  go_wp2_with (first | fail | still_step | (with_reducible refine wpStill_nil ?_) | (with_reducible refine Flow.Both.mk ?_ ?_) | (with_reducible exact True.intro) | (with_reducible refine Flow.same_mk rfl rfl rfl ?_; go_simp; done) | (refine Flow.region_still mixed ?hB ?_; (case hB => decide +kernel)))
  refine (push_yes w.heap.size _ 2 [(3, 5)] 3 6 _ HB3.out (by simp)).mono ?_
  rintro e w4 ⟨rfl, hb, hf⟩
  have HB4 := hid (hb.mono (R2 := fun k => w.heap.size ≤ k ∧ k ≠ w.heap.size) (fun k _ h => by have := HB3.out.lt; (first | omega | (dsimp only at h ⊢; omega) | (dsimp only at h; omega) | (dsimp only; omega) | (simp at h ⊢; omega) | (simp at h; omega) | (rcases h with h | h <;> first | exact h.elim | (dsimp only at h ⊢; omega) | (dsimp only at h; omega) | omega))) (by (first | omega | (dsimp only at h ⊢; omega) | (dsimp only at h; omega) | (dsimp only; omega) | (simp at h ⊢; omega) | (simp at h; omega) | (rcases h with h | h <;> first | exact h.elim | (dsimp only at h ⊢; omega) | (dsimp only at h; omega) | omega))))
  have HF4 := hid (HF3.out.trans hf (fun k hk h => by (first | omega | (dsimp only at h ⊢; omega) | (dsimp only at h; omega) | (dsimp only; omega) | (simp at h ⊢; omega) | (simp at h; omega) | (rcases h with h | h <;> first | exact h.elim | (dsimp only at h ⊢; omega) | (dsimp only at h; omega) | omega))))
  clear hb hf HB3 HF3
  go_wp2_with (first | fail | still_step | (with_reducible refine wpStill_nil ?_) | (with_reducible refine Flow.Both.mk ?_ ?_) | (with_reducible exact True.intro) | (with_reducible refine Flow.same_mk rfl rfl rfl ?_; go_simp; done) | (refine Flow.region_still mixed ?hB ?_; (case hB => decide +kernel)))
  refine (push_no w.heap.size _ 2 [(3, 5), (3, 6)] 3 7 _ HB4.out (by simp)).mono ?_
  rintro e w5 ⟨rfl, hf⟩
  have HB5 := hid (HB4.out.fr hf (fun h => h) (fun _ _ h => h))
  have HF5 := hid (HF4.out.trans hf (fun _ _ h => h))
  clear hf HB4 HF4
  go_wp2_with (first | fail | still_step | (with_reducible refine wpStill_nil ?_) | (with_reducible refine Flow.Both.mk ?_ ?_) | (with_reducible exact True.intro) | (with_reducible refine Flow.same_mk rfl rfl rfl ?_; go_simp; done) | (refine Flow.region_still mixed ?hB ?_; (case hB => decide +kernel)))
  refine (get_yes w.heap.size _ 2 [(3, 5), (3, 6)] 3 _ HB5.out).mono ?_
  rintro e w6 ⟨rfl, hf⟩
  rw [show getL [(3, 5), (3, 6)] 3 = (6, true) from rfl]
  have HB6 := hid (HB5.out.fr hf (fun h => h) (fun _ _ h => h))
  have HF6 := hid (HF5.out.trans hf (fun _ _ h => h))
  clear hf HB5 HF5
  go_wp2_with (first | fail | still_step | (with_reducible refine wpStill_nil ?_) | (with_reducible refine Flow.Both.mk ?_ ?_) | (with_reducible exact True.intro) | (with_reducible refine Flow.same_mk rfl rfl rfl ?_; go_simp; done) | (refine Flow.region_still mixed ?hB ?_; (case hB => decide +kernel)))
  refine (get_yes w.heap.size _ 2 [(3, 5), (3, 6)] 4 _ HB6.out).mono ?_
  rintro e w7 ⟨rfl, hf⟩
  rw [show getL [(3, 5), (3, 6)] 4 = (0, false) from rfl]
  have HB7 := hid (HB6.out.fr hf (fun h => h) (fun _ _ h => h))
  have HF7 := hid (HF6.out.trans hf (fun _ _ h => h))
  clear hf HB6 HF6
  go_wp2_with (first | fail | still_step | (with_reducible refine wpStill_nil ?_) | (with_reducible refine Flow.Both.mk ?_ ?_) | (with_reducible exact True.intro) | (with_reducible refine Flow.same_mk rfl rfl rfl ?_; go_simp; done) | (refine Flow.region_still mixed ?hB ?_; (case hB => decide +kernel)))
  refine (onto_yes w.heap.size (fun k => w.heap.size ≤ k ∧ k ≠ w.heap.size) (fun _ => True) 2 [(3, 5), (3, 6)] (some ⟨w7.heap.size, 0, none⟩) 4 [0, 0, 0, 1] _ ?hb ?hm (by simp) (by simp)).mono ?_
  case hb => exact HB7.out.fr (S := fun _ => False) (by (repeat' (first | with_reducible exact Fr.refl _ _ | with_reducible apply Fr.alloc | with_reducible apply Fr.drew | with_reducible apply Fr.drewN | (with_reducible refine Fr.setCell ?_ ?_ _)))) (fun h => h) (fun _ _ h => h)
  case hm => exact Vw.of_blk (R := fun _ => True) (C := #[.int .i64 0, .int .i64 0, .int .i64 0, .int .i64 1]) (n := 4) (sz := 1) (Blk.new w7 _ _) trivial (by rfl)
  rintro e w8 ⟨ao, cap, rfl, ho, hf⟩
  rw [show ontoL [0, 0, 0, 1] [(3, 5), (3, 6)] = [0, 0, 0, 6] from rfl] at ho
  have HB8 := hid (HB7.out.fr (S := fun _ => False) ((show Fr (fun _ => False) w7 _ by (repeat' (first | with_reducible exact Fr.refl _ _ | with_reducible apply Fr.alloc | with_reducible apply Fr.drew | with_reducible apply Fr.drewN | (with_reducible refine Fr.setCell ?_ ?_ _)))).trans hf (fun _ _ h => h)) (fun h => h) (fun _ _ h => h))
  have HF8 := hid (HF7.out.trans ((show Fr (fun _ => False) w7 _ by (repeat' (first | with_reducible exact Fr.refl _ _ | with_reducible apply Fr.alloc | with_reducible apply Fr.drew | with_reducible apply Fr.drewN | (with_reducible refine Fr.setCell ?_ ?_ _)))).trans hf (fun _ _ h => h)) (fun _ _ h => h))
  have HO8 := hid ho
  have hlt7 := HB7.out.lt
  clear hf HB7 HF7 ho
  go_wp2_with (first | fail | still_step | (with_reducible refine wpStill_nil ?_) | (with_reducible refine Flow.Both.mk ?_ ?_) | (with_reducible exact True.intro) | (with_reducible refine Flow.same_mk rfl rfl rfl ?_; go_simp; done) | (refine Flow.region_still mixed ?hB ?_; (case hB => decide +kernel)))
  refine (pop_some w.heap.size _ 2 3 5 [(3, 6)] _ HB8.out).mono ?_
  rintro e w9 ⟨rfl, hb, hf⟩
  have HO9 := hid (HO8.out.fr hf (fun k h e => by simp at h; omega))
  have HB9 := hid hb
  have HF9 := hid (HF8.out.trans hf (fun k hk h => by (first | omega | (dsimp only at h ⊢; omega) | (dsimp only at h; omega) | (dsimp only; omega) | (simp at h ⊢; omega) | (simp at h; omega) | (rcases h with h | h <;> first | exact h.elim | (dsimp only at h ⊢; omega) | (dsimp only at h; omega) | omega))))
  clear hb hf HB8 HF8 HO8
  obtain ⟨r, off, rfl, hr, hc⟩ := HO9.out.vw.cell (by simp [ints])
  have c3 := hc 3 _ rfl
  have hr9 := World.block_lt_of_cell? _ _ c3
  dsimp only at hr9
  clear hc
  go_wp2_with (first | (go_at_call 17; refine (len_yes w.heap.size _ 2 [(3, 6)] _ (HB9.out.fr (S := fun _ => False) (by (repeat' (first | with_reducible exact Fr.refl _ _ | with_reducible apply Fr.alloc | with_reducible apply Fr.drew | with_reducible apply Fr.drewN | (with_reducible refine Fr.setCell ?_ ?_ _)))) (fun h => h) (fun _ _ h => h))).mono ?_; rintro e w' ⟨rfl, rfl⟩) | still_step | (with_reducible refine wpStill_nil ?_) | (with_reducible refine Flow.Both.mk ?_ ?_) | (with_reducible exact True.intro) | (with_reducible refine Flow.same_mk rfl rfl rfl ?_; go_simp; done) | (refine Flow.region_still mixed ?hB ?_; (case hB => decide +kernel)))
  go_ret
  exact ⟨rfl, HF9.out.alloc _⟩
end Go.Proofs.Ytkpbojddahddnaa
