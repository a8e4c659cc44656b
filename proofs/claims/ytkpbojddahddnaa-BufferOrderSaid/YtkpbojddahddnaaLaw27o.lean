/-
  BufferOrder: stores go in the order in which they came, as many as there is room for; what was cut never goes.
-/
import Derived.Test.YtkpbojddahddnaaLaw27
namespace Go.Proofs.Ytkpbojddahddnaa
open Go.RowKit
attribute [local irreducible] wpStill wpList Calls CallsIn

/-- A script's steps, as cells. -/
def stp : List (Int × Int × Int) → List Value
  | [] => []
  | e :: r => .int .i64 e.1 :: .int .i64 e.2.1 :: .int .i64 e.2.2 :: stp r
theorem stp_length (l : List (Int × Int × Int)) : (stp l).length = l.length * 3 := by
  induction l with
  | nil => rfl
  | cons e r ih => simp [stp, ih, Nat.add_mul]
theorem stp_get (l : List (Int × Int × Int)) : ∀ (k : Nat) (h : k < l.length), (stp l)[k * 3]? = some (.int .i64 l[k].1) ∧ (stp l)[k * 3 + 1]? = some (.int .i64 l[k].2.1) ∧ (stp l)[k * 3 + 2]? = some (.int .i64 l[k].2.2) := by
  induction l with
  | nil => intro k h; simp at h
  | cons e l ih =>
    intro k h
    cases k with
    | zero => simp [stp]
    | succ k =>
      have := ih k (by simpa using h)
      rw [Nat.add_mul]
      simpa [stp] using this

theorem stp_of_rows (rows : List (List Int)) (h : ∀ r ∈ rows, r.length = 3) : ints rows.flatten = stp (rows.map fun r => (r.getD 0 0, r.getD 1 0, r.getD 2 0)) := by
  induction rows with
  | nil => rfl
  | cons r rows ih =>
    have h1 := h r (by simp)
    match r, h1 with
    | [a, b, c], _ =>
      have := ih (fun r hr => h r (by simp [hr]))
      simp [ints, stp] at this ⊢
      exact this

def came (l : List (Int × Int × Int)) : List (Int × Int) := l.map (·.2)

theorem push_take (l : List (Int × Int)) (n k : Nat) (h : k < l.length) : pushL n ((l.take k).take n) l[k] = (l.take (k + 1)).take n := by
  unfold pushL
  have hl : ((l.take k).take n).length = min n k := by simp; omega
  rw [hl]
  by_cases hk : k < n
  · rw [if_pos (by omega), List.take_of_length_le (l := l.take k) (by simp; omega), List.take_of_length_le (l := l.take (k + 1)) (by simp; omega), List.take_succ_eq_append_getElem h]
  · rw [if_neg (by omega), List.take_take, List.take_take, Nat.min_eq_left (by omega), Nat.min_eq_left (by omega)]

set_option maxHeartbeats 2000000 in
set_option maxRecDepth 100000 in
theorem order_walk (a0 : Option Addr) (cap0 : Nat) (l : List (Int × Int × Int)) (room cut : Int) (w : World) (hv : Vw w 3 (fun k => k < w.heap.size) a0 l.length (stp l)) (hlen : l.length ≤ 9223372036854775807)
    (hr0 : 0 ≤ room) (hr1 : room ≤ 255) (hc0 : 0 ≤ cut) (hc1 : cut ≤ 255) :
    Calls Try.prog 5 #[.slice a0 l.length cap0, .int .u8 room, .int .u8 cut] w fun e w' => e = .returned (.bool true) ∧ Below w.heap.size w w' := by
  have HV := hid hv
  clear hv
  go_enter Try.func5, Try.ntmps5
  by_cases hbig : 60 < l.length
  · go_wp2_with (first | (go_at_call 6; refine (awake_true _).mono ?_; rintro e w1 ⟨rfl, hf⟩; have HF := hid hf; clear hf) | still_step | (with_reducible refine wpStill_nil ?_) | (with_reducible refine Flow.Both.mk ?_ ?_) | (with_reducible exact True.intro) | (with_reducible refine Flow.same_mk rfl rfl rfl ?_; go_simp; done) | (with_reducible refine Flow.region_flow (id := 11) [0, 0, 0, 6, 14, 30, 0, 0, 192, 448, 960, 2046, 4095, 8191] 6144 1848 [(0, none), (1, none), (2, none), (3, none), (4, none), (5, none), (6, none), (7, none), (8, none), (9, none), (10, none), (11, some []), (12, some []), (13, none)] mixed ?hB ?_; (case hB => decide +kernel); simp only [Flow.textOf, List.map_cons, List.map_nil, Option.map_none, Option.map_some, Array.getD_eq_getD_getElem?, List.getElem?_toArray, List.getElem?_cons_zero, List.getElem?_cons_succ, Option.getD_some, Flow.wpFl, Flow.SameAll]) | (refine Flow.region_still mixed ?hB ?_; (case hB => decide +kernel)))
    go_ret
    exact ⟨rfl, HF.out.below (Nat.le_refl _) (fun _ _ h => h)⟩
  · go_wp2_with (first | (go_at_call 6; refine (awake_true _).mono ?_; rintro e w1 ⟨rfl, hf⟩; have HF := hid hf; clear hf) | still_step | (with_reducible refine wpStill_nil ?_) | (with_reducible refine Flow.Both.mk ?_ ?_) | (with_reducible exact True.intro) | (with_reducible refine Flow.same_mk rfl rfl rfl ?_; go_simp; done) | (with_reducible refine Flow.region_flow (id := 11) [0, 0, 0, 6, 14, 30, 0, 0, 192, 448, 960, 2046, 4095, 8191] 6144 1848 [(0, none), (1, none), (2, none), (3, none), (4, none), (5, none), (6, none), (7, none), (8, none), (9, none), (10, none), (11, some []), (12, some []), (13, none)] mixed ?hB ?_; (case hB => decide +kernel); simp only [Flow.textOf, List.map_cons, List.map_nil, Option.map_none, Option.map_some, Array.getD_eq_getD_getElem?, List.getElem?_toArray, List.getElem?_cons_zero, List.getElem?_cons_succ, Option.getD_some, Flow.wpFl, Flow.SameAll]) | (refine Flow.region_still mixed ?hB ?_; (case hB => decide +kernel)))
    obtain ⟨n, hn, hn1, hn2⟩ : ∃ n : Nat, room % 20 + 1 = (n : Int) ∧ 1 ≤ n ∧ n ≤ 20 := ⟨(room % 20 + 1).toNat, by omega, by omega, by omega⟩
    rw [hn]
    refine (new_yes n _ (by omega) (by omega)).mono ?_
    rintro e w2 ⟨rfl, hb, hf⟩
    have HB := hid (hb.mono (R2 := fun k => w1.heap.size < k) (fun k _ h => by (first | omega | (dsimp only at h ⊢; omega) | (dsimp only at h; omega) | (dsimp only; omega) | (simp at h ⊢; omega) | (simp at h; omega) | (rcases h with h | h <;> first | exact h.elim | (dsimp only at h ⊢; omega) | (dsimp only at h; omega) | omega))) (by (first | omega | (dsimp only at h ⊢; omega) | (dsimp only at h; omega) | (dsimp only; omega) | (simp at h ⊢; omega) | (simp at h; omega) | (rcases h with h | h <;> first | exact h.elim | (dsimp only at h ⊢; omega) | (dsimp only at h; omega) | omega))))
    have HF2 := hid hf
    have HN := hid hn
    have hz := HF.out.size
    clear hb hf hn
    generalize room % 20 = rm at *
    go_wp2_with (first | fail | still_step | (with_reducible refine wpStill_nil ?_) | (with_reducible refine Flow.Both.mk ?_ ?_) | (with_reducible exact True.intro) | (with_reducible refine Flow.same_mk rfl rfl rfl ?_; go_simp; done) | (with_reducible refine Flow.region_flow (id := 11) [0, 0, 0, 6, 14, 30, 0, 0, 192, 448, 960, 2046, 4095, 8191] 6144 1848 [(0, none), (1, none), (2, none), (3, none), (4, none), (5, none), (6, none), (7, none), (8, none), (9, none), (10, none), (11, some []), (12, some []), (13, none)] mixed ?hB ?_; (case hB => decide +kernel); simp only [Flow.textOf, List.map_cons, List.map_nil, Option.map_none, Option.map_some, Array.getD_eq_getD_getElem?, List.getElem?_toArray, List.getElem?_cons_zero, List.getElem?_cons_succ, Option.getD_some, Flow.wpFl, Flow.SameAll]) | (refine Flow.region_still mixed ?hB ?_; (case hB => decide +kernel)))
    go_loopw [10] (fun i wr => ∃ k : Nat, k ≤ l.length ∧ i = .int .i64 k ∧ BufRep wr w1.heap.size (fun k => w1.heap.size < k) n (((came l).take k).take n) ∧ Fr (fun k => w1.heap.size ≤ k) w2 wr) (fun i _ => l.length - (intOf i).toNat)
    case atStart => exact ⟨0, Nat.zero_le _, rfl, by simpa using HB.out, Fr.refl _ _⟩
    case round =>
      obtain ⟨k, hk, rfl, hb, hf⟩ := hrel
      have HB3 := hid hb
      have HF3 := hid hf
      clear hb hf
      by_cases hlt : k < l.length
      · have hne : stp l ≠ [] := fun h => by have := stp_length l; rw [h] at this; simp at this; omega
        have hv := ((HV.out.fr HF.out (fun _ _ h => h)).fr HF2.out (fun _ _ h => h)).fr HF3.out (fun k h1 h2 => by (first | omega | (dsimp only at h ⊢; omega) | (dsimp only at h; omega) | (dsimp only; omega) | (simp at h ⊢; omega) | (simp at h; omega) | (rcases h with h | h <;> first | exact h.elim | (dsimp only at h ⊢; omega) | (dsimp only at h; omega) | omega)))
        obtain ⟨r0, off0, rfl, hr0', hc2⟩ := hv.cell hne
        have c1 : wr.cell? ⟨r0, off0 + k * 3 + 1, none⟩ = some (.int .i64 l[k].2.1) := hc2 (k * 3 + 1) _ (stp_get l k hlt).2.1
        have c2 : wr.cell? ⟨r0, off0 + k * 3 + 2, none⟩ = some (.int .i64 l[k].2.2) := hc2 (k * 3 + 2) _ (stp_get l k hlt).2.2
        have hcl : (((came l).take k).take n).length = min n k := by simp [came]; omega
        have hpt := push_take (came l) n k (by simpa [came] using hlt)
        have HP := hid hpt
        have HC := hid hcl
        clear hv hc2 hne hpt hcl
        by_cases hkn : k < n
        all_goals
          go_wp2_with (first | (go_at_call 8; refine (push_all w1.heap.size (fun k => w1.heap.size < k) n (((came l).take k).take n) _ _ _ ?hb).mono ?_; (case hb => exact HB3.out.fr (S := fun _ => False) (by (repeat' (first | with_reducible exact Fr.refl _ _ | with_reducible apply Fr.alloc | with_reducible apply Fr.drew | with_reducible apply Fr.drewN | (with_reducible refine Fr.setCell ?_ ?_ _)))) (fun h => h) (fun _ _ h => h)); rintro e w4 ⟨rfl, hb, hf⟩; (first | (rw [show decide ((((came l).take k).take n).length < n) = true by rw [HC.out]; simp; omega]) | (rw [show decide ((((came l).take k).take n).length < n) = false by rw [HC.out]; simp; omega])); have HB4 := hid hb; have HF4 := hid hf; clear hb hf) | still_step | (with_reducible refine wpStill_nil ?_) | (with_reducible refine Flow.Both.mk ?_ ?_) | (with_reducible exact True.intro) | (with_reducible refine Flow.same_mk rfl rfl rfl ?_; go_simp; done) | (with_reducible refine Flow.region_flow (id := 11) [0, 0, 0, 6, 14, 30, 0, 0, 192, 448, 960, 2046, 4095, 8191] 6144 1848 [(0, none), (1, none), (2, none), (3, none), (4, none), (5, none), (6, none), (7, none), (8, none), (9, none), (10, none), (11, some []), (12, some []), (13, none)] mixed ?hB ?_; (case hB => decide +kernel); simp only [Flow.textOf, List.map_cons, List.map_nil, Option.map_none, Option.map_some, Array.getD_eq_getD_getElem?, List.getElem?_toArray, List.getElem?_cons_zero, List.getElem?_cons_succ, Option.getD_some, Flow.wpFl, Flow.SameAll]) | (refine Flow.region_still mixed ?hB ?_; (case hB => decide +kernel)))
          go_roundw
          case rel =>
            refine ⟨k + 1, by omega, by go_num, ?_, ?_⟩
            · rw [← HP.out]
              have h := HB4.out.mono (R2 := fun k => w1.heap.size < k) (fun k _ h => by have := HB3.out.lt; (first | omega | (dsimp only at h ⊢; omega) | (dsimp only at h; omega) | (dsimp only; omega) | (simp at h ⊢; omega) | (simp at h; omega) | (rcases h with h | h <;> first | exact h.elim | (dsimp only at h ⊢; omega) | (dsimp only at h; omega) | omega))) (by (first | omega | (dsimp only at h ⊢; omega) | (dsimp only at h; omega) | (dsimp only; omega) | (simp at h ⊢; omega) | (simp at h; omega) | (rcases h with h | h <;> first | exact h.elim | (dsimp only at h ⊢; omega) | (dsimp only at h; omega) | omega)))
              simpa [came] using h
            · exact HF3.out.drew.trans HF4.out (fun k hk h => by (first | omega | (dsimp only at h ⊢; omega) | (dsimp only at h; omega) | (dsimp only; omega) | (simp at h ⊢; omega) | (simp at h; omega) | (rcases h with h | h <;> first | exact h.elim | (dsimp only at h ⊢; omega) | (dsimp only at h; omega) | omega)))
          case measure => simp [intOf]; omega
      · obtain rfl : k = l.length := by omega
        have HB5 := hid (show BufRep wr w1.heap.size (fun k => w1.heap.size < k) n ((came l).take n) by have h := HB3.out; rwa [List.take_of_length_le (l := came l) (by simp [came])] at h)
        clear HB3
        obtain ⟨kk, hkk, hkk2⟩ : ∃ kk : Nat, cut % 30 = (kk : Int) ∧ kk < 30 := ⟨(cut % 30).toNat, by omega, by omega⟩
        go_wp2_with (first | fail | still_step | (with_reducible refine wpStill_nil ?_) | (with_reducible refine Flow.Both.mk ?_ ?_) | (with_reducible exact True.intro) | (with_reducible refine Flow.same_mk rfl rfl rfl ?_; go_simp; done) | (with_reducible refine Flow.region_flow (id := 11) [0, 0, 0, 6, 14, 30, 0, 0, 192, 448, 960, 2046, 4095, 8191] 6144 1848 [(0, none), (1, none), (2, none), (3, none), (4, none), (5, none), (6, none), (7, none), (8, none), (9, none), (10, none), (11, some []), (12, some []), (13, none)] mixed ?hB ?_; (case hB => decide +kernel); simp only [Flow.textOf, List.map_cons, List.map_nil, Option.map_none, Option.map_some, Array.getD_eq_getD_getElem?, List.getElem?_toArray, List.getElem?_cons_zero, List.getElem?_cons_succ, Option.getD_some, Flow.wpFl, Flow.SameAll]) | (refine Flow.region_still mixed ?hB ?_; (case hB => decide +kernel)))
        rw [hkk]
        have HKK := hid hkk
        clear hkk
        generalize cut % 30 = cm at *
        refine (cut_all w1.heap.size (fun k => w1.heap.size < k) n ((came l).take n) kk _ HB5.out).mono ?_
        rintro e w4 ⟨rfl, hb, hf⟩
        rw [Int.toNat_natCast] at hb
        have HB6 := hid hb
        have HF6 := hid (HF3.out.trans hf (fun k hk h => by (first | omega | (dsimp only at h ⊢; omega) | (dsimp only at h; omega) | (dsimp only; omega) | (simp at h ⊢; omega) | (simp at h; omega) | (rcases h with h | h <;> first | exact h.elim | (dsimp only at h ⊢; omega) | (dsimp only at h; omega) | omega))))
        clear hb hf HB5 HF3
        obtain ⟨last, hlast⟩ : ∃ last, last = min l.length (min n kk) := ⟨_, rfl⟩
        obtain ⟨q, hq⟩ : ∃ q, q = ((came l).take n).take kk := ⟨_, rfl⟩
        have hql : q.length = last := by rw [hq, hlast]; simp [came]; omega
        have hqk : ∀ (j : Nat) (h : j < q.length), ∃ h2 : j < l.length, q[j] = l[j].2 := fun j h => by
          have h2 : j < l.length := by rw [hql, hlast] at h; omega
          refine ⟨h2, ?_⟩
          subst hq
          simp [came]
        have hm3 := fun w => run_min3_nat (P := Try.prog) #[3, 3, 3] 3 l.length n kk last hlast w
        have hln : last ≤ n := by omega
        have hlk : last ≤ l.length := by omega
        have HQ := hid hq
        have HQL := hid hql
        have HQK := hid hqk
        rw [← hq] at HB6
        clear hlast hq hql hqk
        obtain ⟨full, hfull⟩ : ∃ full, full = pushL n q (7, 7) := ⟨_, rfl⟩
        have hfl : full.length = if last < n then last + 1 else n := by rw [hfull, pushL, HQL.out]; split <;> simp [HQL.out]; omega
        have hfk : ∀ (j : Nat), j < last → full.drop j = q[j]?.getD (0, 0) :: full.drop (j + 1) := fun j hj => by
          have h1 : j < full.length := by rw [hfl]; split <;> omega
          rw [List.drop_eq_getElem_cons h1]
          congr 1
          have h2 : j < q.length := by rw [HQL.out]; exact hj
          subst hfull
          simp only [pushL]
          rw [List.getElem?_eq_getElem h2]
          split <;> simp [List.getElem_append_left, h2]
        have hfe : full.drop last = if last < n then [(7, 7)] else [] := by
          rw [hfull, pushL, HQL.out]
          split
          · rw [List.drop_append, ← HQL.out]; simp
          · rw [← HQL.out]; simp
        have HFL := hid hfl
        have HFK := hid hfk
        have HFE := hid hfe
        have HFU := hid hfull
        clear hfull hfl hfk hfe
        by_cases hlt2 : last < n
        all_goals
          have hd1 : decide (q.length < n) = decide (last < n) := by rw [HQL.out]
          have HD1 := hid hd1
          clear hd1
          go_wp2_with (first | (go_at_call 8; refine (push_all w1.heap.size (fun k => w1.heap.size < k) n q _ _ _ HB6.out).mono ?_; rintro e w5 ⟨rfl, hb, hf⟩; rw [HD1.out]; rw [← HFU.out] at hb; have HB7 := hid (hb.mono (R2 := fun k => w1.heap.size < k) (fun k _ h => by have := HB6.out.lt; (first | omega | (dsimp only at h ⊢; omega) | (dsimp only at h; omega) | (dsimp only; omega) | (simp at h ⊢; omega) | (simp at h; omega) | (rcases h with h | h <;> first | exact h.elim | (dsimp only at h ⊢; omega) | (dsimp only at h; omega) | omega))) (by (first | omega | (dsimp only at h ⊢; omega) | (dsimp only at h; omega) | (dsimp only; omega) | (simp at h ⊢; omega) | (simp at h; omega) | (rcases h with h | h <;> first | exact h.elim | (dsimp only at h ⊢; omega) | (dsimp only at h; omega) | omega)))); have HF7 := hid (HF6.out.trans hf (fun k hk h => by (first | omega | (dsimp only at h ⊢; omega) | (dsimp only at h; omega) | (dsimp only; omega) | (simp at h ⊢; omega) | (simp at h; omega) | (rcases h with h | h <;> first | exact h.elim | (dsimp only at h ⊢; omega) | (dsimp only at h; omega) | omega)))); clear hb hf; simp only [hlt2, decide_true, decide_false]) | (go_at_call 17; refine (len_yes w1.heap.size _ n _ _ HB7.out).mono ?_; rintro e w' ⟨rfl, rfl⟩; rw [HFL.out]; simp only [hlt2, if_true, if_false]) | still_step | (with_reducible refine wpStill_nil ?_) | (with_reducible refine Flow.Both.mk ?_ ?_) | (with_reducible exact True.intro) | (with_reducible refine Flow.same_mk rfl rfl rfl ?_; go_simp; done) | (with_reducible refine Flow.region_flow (id := 11) [0, 0, 0, 6, 14, 30, 0, 0, 192, 448, 960, 2046, 4095, 8191] 6144 1848 [(0, none), (1, none), (2, none), (3, none), (4, none), (5, none), (6, none), (7, none), (8, none), (9, none), (10, none), (11, some []), (12, some []), (13, none)] mixed ?hB ?_; (case hB => decide +kernel); simp only [Flow.textOf, List.map_cons, List.map_nil, Option.map_none, Option.map_some, Array.getD_eq_getD_getElem?, List.getElem?_toArray, List.getElem?_cons_zero, List.getElem?_cons_succ, Option.getD_some, Flow.wpFl, Flow.SameAll]) | (refine Flow.region_still mixed ?hB ?_; (case hB => decide +kernel)))
          go_loopw [15] (fun i wr => ∃ j : Nat, j ≤ last ∧ i = .int .i64 j ∧ BufRep wr w1.heap.size (fun k => w1.heap.size < k) n (full.drop j) ∧ Fr (fun k => w1.heap.size ≤ k) w2 wr) (fun i _ => last - (intOf i).toNat)
          case atStart => exact ⟨0, Nat.zero_le _, rfl, by simpa using HB7.out, HF7.out⟩
          case round =>
            obtain ⟨j, hj, rfl, hb, hf⟩ := hrel
            have HB8 := hid hb
            have HF8 := hid hf
            clear hb hf HB7 HF7
            by_cases hjl : j < last
            · have hfj := HFK.out j hjl
              have hjl2 : j < l.length := by omega
              have hqj : q[j]?.getD (0, 0) = l[j].2 := by
                obtain ⟨h2, h3⟩ := HQK.out j (by rw [HQL.out]; exact hjl)
                rw [List.getElem?_eq_getElem (by rw [HQL.out]; exact hjl), Option.getD_some, h3]
              rw [hqj] at hfj
              have hb := HB8.out
              rw [hfj] at hb
              have HB9 := hid hb
              clear hb hfj hqj
              have hne : stp l ≠ [] := fun h => by have := stp_length l; rw [h] at this; simp at this; omega
              have hv := ((HV.out.fr HF.out (fun _ _ h => h)).fr HF2.out (fun _ _ h => h)).fr HF8.out (fun k h1 h2 => by (first | omega | (dsimp only at h ⊢; omega) | (dsimp only at h; omega) | (dsimp only; omega) | (simp at h ⊢; omega) | (simp at h; omega) | (rcases h with h | h <;> first | exact h.elim | (dsimp only at h ⊢; omega) | (dsimp only at h; omega) | omega)))
              obtain ⟨r0, off0, rfl, hr0', hc2⟩ := hv.cell hne
              have c1 : wr.cell? ⟨r0, off0 + j * 3 + 1, none⟩ = some (.int .i64 l[j].2.1) := hc2 (j * 3 + 1) _ (stp_get l j hjl2).2.1
              have c2 : wr.cell? ⟨r0, off0 + j * 3 + 2, none⟩ = some (.int .i64 l[j].2.2) := hc2 (j * 3 + 2) _ (stp_get l j hjl2).2.2
              have hr0l := World.block_lt_of_cell? _ _ c1
              dsimp only at hr0l
              clear hv hc2 hne
              go_wp2_with (first | (go_at_call 9; refine (pop_some w1.heap.size (fun k => w1.heap.size < k) n l[j].2.1 l[j].2.2 (full.drop (j + 1)) _ HB9.out).mono ?_; rintro e w6 ⟨rfl, hb, hf⟩; replace c1 := hf.cell c1 (by dsimp only; omega); replace c2 := hf.cell c2 (by dsimp only; omega); have hz6 : r0 < w6.heap.size := (by have := hf.size; omega); have HB10 := hid hb; have HF10 := hid (HF8.out.trans hf (fun k hk h => by (first | omega | (dsimp only at h ⊢; omega) | (dsimp only at h; omega) | (dsimp only; omega) | (simp at h ⊢; omega) | (simp at h; omega) | (rcases h with h | h <;> first | exact h.elim | (dsimp only at h ⊢; omega) | (dsimp only at h; omega) | omega)))); clear hb hf) | still_step | (with_reducible refine wpStill_nil ?_) | (with_reducible refine Flow.Both.mk ?_ ?_) | (with_reducible exact True.intro) | (with_reducible refine Flow.same_mk rfl rfl rfl ?_; go_simp; done) | (with_reducible refine Flow.region_flow (id := 11) [0, 0, 0, 6, 14, 30, 0, 0, 192, 448, 960, 2046, 4095, 8191] 6144 1848 [(0, none), (1, none), (2, none), (3, none), (4, none), (5, none), (6, none), (7, none), (8, none), (9, none), (10, none), (11, some []), (12, some []), (13, none)] mixed ?hB ?_; (case hB => decide +kernel); simp only [Flow.textOf, List.map_cons, List.map_nil, Option.map_none, Option.map_some, Array.getD_eq_getD_getElem?, List.getElem?_toArray, List.getElem?_cons_zero, List.getElem?_cons_succ, Option.getD_some, Flow.wpFl, Flow.SameAll]) | (refine Flow.region_still mixed ?hB ?_; (case hB => decide +kernel)))
              go_roundw
              case rel =>
                have hrl : ∃ j_1 : Nat, j_1 ≤ last ∧ (Value.int .i64 ((j : Int) + 1)) = .int .i64 j_1 ∧ BufRep (w6.alloc (.cells #[.int .i64 l[j].2.1, .int .i64 l[j].2.2] 32)).drew w1.heap.size (fun k => w1.heap.size < k) n (full.drop j_1) ∧ Fr (fun k => w1.heap.size ≤ k) w2 (w6.alloc (.cells #[.int .i64 l[j].2.1, .int .i64 l[j].2.2] 32)).drew := ⟨j + 1, by omega, by go_num, HB10.out.fr (S := fun _ => False) (by (repeat' (first | with_reducible exact Fr.refl _ _ | with_reducible apply Fr.alloc | with_reducible apply Fr.drew | with_reducible apply Fr.drewN | (with_reducible refine Fr.setCell ?_ ?_ _)))) (fun h => h) (fun _ _ h => h), HF10.out.trans (S2 := fun _ => False) (by (repeat' (first | with_reducible exact Fr.refl _ _ | with_reducible apply Fr.alloc | with_reducible apply Fr.drew | with_reducible apply Fr.drewN | (with_reducible refine Fr.setCell ?_ ?_ _)))) (fun _ _ h => h.elim)⟩
                first | exact hrl | ((repeat apply Exists.intro); exact ⟨hrl, rfl⟩)
              case measure => simp [intOf]; omega
            · obtain rfl : j = last := by omega
              have hb := HB8.out
              rw [HFE.out] at hb
              simp only [hlt2, if_true, if_false] at hb
              have HB9 := hid hb
              clear hb HB8
              go_wp2_with (first | first | (go_at_call 9; refine (pop_some w1.heap.size (fun k => w1.heap.size < k) n 7 7 [] _ HB9.out).mono ?_; rintro e w6 ⟨rfl, hb, hf⟩; have HB10 := hid hb; have HF10 := hid (HF8.out.trans hf (fun k hk h => by (first | omega | (dsimp only at h ⊢; omega) | (dsimp only at h; omega) | (dsimp only; omega) | (simp at h ⊢; omega) | (simp at h; omega) | (rcases h with h | h <;> first | exact h.elim | (dsimp only at h ⊢; omega) | (dsimp only at h; omega) | omega)))); clear hb hf HB9) | (go_at_call 9; refine (pop_none w1.heap.size (fun k => w1.heap.size < k) n _ (HB10.out.fr (S := fun _ => False) (by (repeat' (first | with_reducible exact Fr.refl _ _ | with_reducible apply Fr.alloc | with_reducible apply Fr.drew | with_reducible apply Fr.drewN | (with_reducible refine Fr.setCell ?_ ?_ _)))) (fun h => h) (fun _ _ h => h))).mono ?_; rintro e w7 ⟨rfl, hf⟩; have kb := (Blk.new w6 _ _).fr hf (fun h => h); have kb0 := kb.cell 0; have kb1 := kb.cell 1; have kbl := kb.lt; simp at kb0 kb1; clear kb; have HF11 := hid ((HF10.out.trans (S2 := fun _ => False) (by (repeat' (first | with_reducible exact Fr.refl _ _ | with_reducible apply Fr.alloc | with_reducible apply Fr.drew | with_reducible apply Fr.drewN | (with_reducible refine Fr.setCell ?_ ?_ _)))) (fun _ _ h => h.elim)).trans hf (fun k hk h => by (first | omega | (dsimp only at h ⊢; omega) | (dsimp only at h; omega) | (dsimp only; omega) | (simp at h ⊢; omega) | (simp at h; omega) | (rcases h with h | h <;> first | exact h.elim | (dsimp only at h ⊢; omega) | (dsimp only at h; omega) | omega)))); clear hf HB10) | (go_at_call 9; refine (pop_none w1.heap.size (fun k => w1.heap.size < k) n _ HB9.out).mono ?_; rintro e w6 ⟨rfl, hf⟩; have HB10 := hid (HB9.out.fr hf (fun h => h) (fun _ _ h => h)); have HF10 := hid (HF8.out.trans hf (fun k hk h => h.elim)); clear hf HB9) | still_step | (with_reducible refine wpStill_nil ?_) | (with_reducible refine Flow.Both.mk ?_ ?_) | (with_reducible exact True.intro) | (with_reducible refine Flow.same_mk rfl rfl rfl ?_; go_simp; done) | (with_reducible refine Flow.region_flow (id := 11) [0, 0, 0, 6, 14, 30, 0, 0, 192, 448, 960, 2046, 4095, 8191] 6144 1848 [(0, none), (1, none), (2, none), (3, none), (4, none), (5, none), (6, none), (7, none), (8, none), (9, none), (10, none), (11, some []), (12, some []), (13, none)] mixed ?hB ?_; (case hB => decide +kernel); simp only [Flow.textOf, List.map_cons, List.map_nil, Option.map_none, Option.map_some, Array.getD_eq_getD_getElem?, List.getElem?_toArray, List.getElem?_cons_zero, List.getElem?_cons_succ, Option.getD_some, Flow.wpFl, Flow.SameAll]) | (refine Flow.region_still mixed ?hB ?_; (case hB => decide +kernel)))
              go_ret
              exact ⟨rfl, ((((HF.out.trans HF2.out (fun _ _ h => h.elim)).mono (S2 := fun k => w.heap.size ≤ k) (fun _ _ h => h.elim)).trans (HF11.out.alloc _) (fun k hk h => by (first | omega | (dsimp only at h ⊢; omega) | (dsimp only at h; omega) | (dsimp only; omega) | (simp at h ⊢; omega) | (simp at h; omega) | (rcases h with h | h <;> first | exact h.elim | (dsimp only at h ⊢; omega) | (dsimp only at h; omega) | omega))))).below (Nat.le_refl _) (fun k h1 h2 => by omega)⟩
end Go.Proofs.Ytkpbojddahddnaa
