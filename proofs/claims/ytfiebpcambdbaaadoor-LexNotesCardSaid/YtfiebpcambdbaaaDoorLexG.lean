/-
  What lex.sign answers: the longest sign that a text begins with; by a range over strings.FieldsSeq.
-/
import Derived.Test.YtfiebpcambdbaaaDoorLexR
import Derived.RangeFuncNested
import Derived.RangeFuncBound
import Derived.RangeFuncCalls
import Derived.RangeFuncLeaves
import Derived.Shelf.Abstract
import Derived.Shelf.RegionOpen
import Derived.OwnWalkIn
import Derived.TacticsInMore
import Derived.LoopNIn
import Derived.LoopIn
set_option linter.unusedVariables false
set_option linter.unusedSimpArgs false
set_option maxHeartbeats 4000000
set_option maxRecDepth 8000
namespace Go.Proofs.YtfiebpcambdbaaaDoor
open Go.RowKit Go.Shelf Go.Proofs.YtfiebpcambdbaaaDoor.Lex
attribute [local go_sem] Oper.semAt_some
attribute [local irreducible] wpStill wpList Calls CallsIn

/-- f 0, .., f (k - 1). -/
def upto {α : Type} (f : Nat → α) (k : Nat) : List α := (List.range k).map f
theorem upto_succ {α : Type} (f : Nat → α) (k : Nat) : upto f (k + 1) = upto f k ++ [f k] := by simp [upto, List.range_succ]
theorem upto_length {α : Type} (f : Nat → α) (k : Nat) : (upto f k).length = k := by simp [upto]
theorem upto_take {α : Type} (f : Nat → α) {k n : Nat} (h : k ≤ n) : upto f k <+: upto f n := by
  obtain ⟨d, rfl⟩ : ∃ d, n = k + d := ⟨n - k, by omega⟩
  induction d with
  | zero => exact List.prefix_refl _
  | succ d ih => rw [show k + (d + 1) = (k + d) + 1 by omega, upto_succ]; exact (ih (by omega)).trans (List.prefix_append _ _)

def pairsV : ByteArray := ⟨#[38, 38, 32, 124, 124, 32, 61, 61, 32, 33, 61, 32, 60, 61, 32, 62, 61, 32, 60, 60, 32, 62, 62]⟩
def pairAt (j : Nat) : ByteArray := pairsV.extract (3 * j) (3 * j + 2)
theorem pairs_size : pairsV.size = 23 := rfl
theorem pairs_blank : ∀ j, j < 7 → ∀ h, ((pairsV[3 * j + 2]'h).toNat : Int) = 32 := by
  intro j hj h
  rcases (by omega : j = 0 ∨ j = 1 ∨ j = 2 ∨ j = 3 ∨ j = 4 ∨ j = 5 ∨ j = 6) with rfl | rfl | rfl | rfl | rfl | rfl | rfl <;> rfl
theorem pairs_sign : ∀ j d, j < 8 → d < 2 → ∃ c : Nat, (∀ h, ((pairsV[3 * j + d]'h).toNat : Int) = (c : Int)) ∧ c < 128 ∧ spaceInts.getD c 0 = 0 := by
  intro j d hj hd
  rcases (by omega : d = 0 ∨ d = 1) with rfl | rfl <;>
  rcases (by omega : j = 0 ∨ j = 1 ∨ j = 2 ∨ j = 3 ∨ j = 4 ∨ j = 5 ∨ j = 6 ∨ j = 7) with rfl | rfl | rfl | rfl | rfl | rfl | rfl | rfl <;>
  first
  | exact ⟨38, fun _ => rfl, by decide, by decide +kernel⟩
  | exact ⟨124, fun _ => rfl, by decide, by decide +kernel⟩
  | exact ⟨61, fun _ => rfl, by decide, by decide +kernel⟩
  | exact ⟨33, fun _ => rfl, by decide, by decide +kernel⟩
  | exact ⟨60, fun _ => rfl, by decide, by decide +kernel⟩
  | exact ⟨62, fun _ => rfl, by decide, by decide +kernel⟩

set_option maxRecDepth 100000 in
theorem fseq1 (n : Nat) (hn : 1 ≤ n) (lp Bs n₀ : Nat) (J Jx : List ByteArray → World → Prop)
    (hY : ∀ pre x W, J pre W → pre.length < 8 → YieldAt Fence.wide (n - 1) Tryd.prog lp #[.string x] W fun e W' =>
      (e = .returned (.bool true) ∧ J (pre ++ [x]) W' ∧ Below n₀ W W') ∨ (e = .returned (.bool false) ∧ Jx (pre ++ [x]) W'))
    (W : World) (hBs : W.cell? ⟨Bs, 0, none⟩ = some (.string pairsV)) (hBs2 : Bs < n₀) (hsp : ∀ i, i < 256 → W.cell? ⟨1, i, none⟩ = some (.int .u8 (spaceInts.getD i 0))) (hn1 : 1 < n₀) (h0 : J [] W) :
    CallsIn Fence.wide n Tryd.prog 55 #[.func (.yield lp) #[] #[], .pointer (some ⟨Bs, 0, none⟩)] W fun e W' => (∃ v, e = .returned v) ∧
      ((∃ ys, ys = upto pairAt 8 ∧ J ys W') ∨ (∃ pre, (∃ k, k ≤ 8 ∧ pre = upto pairAt k) ∧ Jx pre W')) := by
  obtain ⟨s, hse⟩ : ∃ s : ByteArray, s = pairsV := ⟨_, rfl⟩
  have hsz : s.size = 23 := by rw [hse]; rfl
  rw [← hse] at hBs
  have HSE := hid hse
  have HSP := hid hsp
  clear hsp hse
  refine callsIn_of_wp Tryd.func55 rfl trivial ?_ rfl
  simp only [Tryd.ntmps55, List.size_toArray, List.length_cons, List.length_nil, Nat.reduceAdd, Nat.reduceSub, Array.replicate_succ, Array.replicate_zero, List.push_toArray, List.append_toArray, List.nil_append, List.cons_append]
  gi_wp2
  gi_loopw [3, 4] (fun v3 v4 wr => ∃ j a d i : Nat, a = 3 * j ∧ d ≤ 2 ∧ i = a + d ∧ i ≤ 23 ∧ v4 = .int .i64 (i : Int) ∧ v3 = .int .i64 (if d = 0 then -1 else (a : Int)) ∧ J (upto pairAt j) wr ∧ Below n₀ W wr)
    (fun _ v4 _ => 23 - (intOf v4).toNat)
  case atStart => exact ⟨0, 0, 0, 0, rfl, by omega, rfl, by omega, rfl, rfl, h0, Below.refl _ _⟩
  case round =>
    obtain ⟨j, a, d, i, ha, hd, hi, hle, rfl, rfl, hJs, hnx⟩ := hrel
    have hbx := (hnx.cell (p := ⟨Bs, 0, none⟩) hBs2).trans hBs
    by_cases hend : i = 23
    · have hj : j = 7 := by omega
      have hd2 : d = 2 := by omega
      subst hj
      subst hd2
      rw [if_neg (by decide)]
      subst ha
      subst hi
      obtain ⟨fn, tmps, assign, body, hy, hR⟩ := hY _ (s.extract 21 23) wr hJs (by rw [upto_length]; omega)
      have he : (s.extract 21 23) = pairAt 7 := by rw [HSE.out]; rfl
      have HE := hid he
      clear he hend
      gi_wp2
      refine hR.mono ?_
      rintro e W3 (⟨rfl, hJ3, hk3⟩ | ⟨rfl, hJx3⟩)
      · gi_wp2
        go_end0
        refine ⟨⟨_, rfl⟩, .inl ⟨_, rfl, ?_⟩⟩
        rw [HE.out, ← upto_succ] at hJ3
        exact hJ3
      · gi_wp2
        go_end0
        refine ⟨⟨_, rfl⟩, .inr ⟨_, ⟨8, by omega, ?_⟩, hJx3⟩⟩
        rw [HE.out, ← upto_succ]
    · have hlt : i < 23 := by omega
      have hj8 : j < 8 := by omega
      have hlt2 : (i : Int) < 23 := by omega
      by_cases hd2 : d = 2
      · subst hd2
        rw [if_neg (by decide)]
        have hbt : ∀ h, ((s[i]'h).toNat : Int) = 32 := by
          have := pairs_blank j (by omega)
          rw [← HSE.out] at this
          intro h
          have e : i = 3 * j + 2 := by omega
          subst e
          exact this h
        have hcs := (hnx.cell (p := ⟨1, 32, none⟩) hn1).trans (HSP.out 32 (by decide))
        rw [show spaceInts.getD 32 0 = 1 from by decide +kernel] at hcs
        obtain ⟨fn, tmps, assign, body, hy, hR⟩ := hY _ (s.extract a i) wr hJs (by rw [upto_length]; omega)
        have he : (s.extract a i) = pairAt j := by rw [HSE.out, hi, ha]; rfl
        have HE := hid he
        have hai : (a : Int) ≤ i := by omega
        have ha0 : (0 : Int) ≤ a := by omega
        have HAI := hid (⟨ha, hi⟩ : _ ∧ _)
        clear he hend ha hi hd hj8 hle hlt
        gi_wp2
        refine hR.mono ?_
        rintro e W3 (⟨rfl, hJ3, hk3⟩ | ⟨rfl, hJx3⟩)
        · gi_wp2
          go_roundw
          case rel =>
            obtain ⟨ha, hi⟩ := HAI.out
            refine ⟨j + 1, a + 3, 0, i + 1, by omega, by omega, by omega, by omega, rfl, rfl, ?_, hnx.trans hk3⟩
            rw [upto_succ, ← HE.out]
            exact hJ3
          case measure => simp [intOf]; omega
        · gi_wp2
          refine bodyPost_ret (results_none rfl _ _ _) rfl ?_
          obtain ⟨ha, hi⟩ := HAI.out
          refine ⟨⟨_, rfl⟩, .inr ⟨_, ⟨j + 1, by omega, ?_⟩, hJx3⟩⟩
          rw [upto_succ, ← HE.out]
      · obtain ⟨c, hc1, hc2, hc3⟩ := pairs_sign j d hj8 (by omega)
        have hbt : ∀ h, ((s[i]'h).toNat : Int) = (c : Int) := by
          rw [← HSE.out] at hc1
          intro h
          have e : i = 3 * j + d := by omega
          subst e
          exact hc1 h
        have hcs := (hnx.cell (p := ⟨1, c, none⟩) hn1).trans (HSP.out c (by omega))
        rw [hc3] at hcs
        have hc4 : ((c : Nat) : Int) < 128 := by omega
        have HAI := hid (⟨ha, hi⟩ : _ ∧ _)
        have HD := hid (⟨hd, hle⟩ : _ ∧ _)
        clear hc1 hc3 hend
        by_cases hd0 : d = 0
        · subst hd0
          rw [if_pos rfl]
          clear ha hi hd hj8 hle hlt hd2
          gi_wp2
          go_roundw
          case rel =>
            obtain ⟨ha, hi⟩ := HAI.out
            exact ⟨j, a, 1, i + 1, ha, by omega, by omega, by omega, rfl, by rw [if_neg (by decide), show i = a by omega], hJs, hnx⟩
          case measure => simp [intOf]; omega
        · have hd1 : d = 1 := by omega
          subst hd1
          rw [if_neg (by decide)]
          have ha0 : (0 : Int) ≤ a := by omega
          clear ha hi hd hj8 hle hlt hd2 hd0
          gi_wp2
          go_roundw
          case rel =>
            obtain ⟨ha, hi⟩ := HAI.out
            exact ⟨j, a, 2, i + 1, ha, by omega, by omega, by omega, rfl, by rw [if_neg (by decide)], hJs, hnx⟩
          case measure => simp [intOf]; omega

theorem fseq_yes (s : ByteArray) (w : World) :
    Calls Tryd.prog 47 #[.string s] w fun e w' => e = .returned (.func (.func 55) #[] #[.pointer (some ⟨w.heap.size, 0, none⟩)]) ∧ w' = w.alloc (.cells #[.string s] 9) := by
  go_enter Tryd.func47, Tryd.ntmps47
  go_wp2
  go_ret
  exact ⟨rfl, rfl⟩

/-- strings.FieldsSeq's value over lex's pairs: all eight; or the first ones of these. -/
theorem fseq_stops (n : Nat) (hn : 1 ≤ n) (Bs n₀ : Nat) (w : World) (hBs : Bs < n₀) (hn₀ : n₀ ≤ w.heap.size) (h1 : 1 < n₀) (hc : w.cell? ⟨Bs, 0, none⟩ = some (.string pairsV)) (hsp : ∀ i, i < 256 → w.cell? ⟨1, i, none⟩ = some (.int .u8 (spaceInts.getD i 0))) :
    SeqStopsK Fence.wide n Tryd.prog 55 #[.pointer (some ⟨Bs, 0, none⟩)] (fun x : ByteArray => #[Value.string x]) (Below n₀) (fun ys => ys = upto pairAt 8) (fun pre => ∃ k, k ≤ 8 ∧ pre = upto pairAt k) 8 w := fun lp J Jx W hW _ _ hY h0 => by
  refine (fseq1 n hn lp Bs n₀ J Jx hY W ((hW.cell (p := ⟨Bs, 0, none⟩) (by dsimp only; omega)).trans hc) hBs (fun i hi => (hW.cell (p := ⟨1, i, none⟩) (by dsimp only; omega)).trans (hsp i hi)) h1 h0).mono ?_
  rintro e W' ⟨he, ⟨ys, rfl, hj⟩ | ⟨pre, ⟨k, hk, rfl⟩, hj⟩⟩
  · exact ⟨he, .inl ⟨_, rfl, hj⟩⟩
  · exact ⟨he, .inr ⟨_, ⟨k, hk, rfl⟩, hj⟩⟩

theorem pair_list (j : Nat) (hj : j < 8) : ∃ a b, pairAt j = ⟨#[a, b]⟩ ∧ pairsB.contains [a, b] = true := by
  rcases (by omega : j = 0 ∨ j = 1 ∨ j = 2 ∨ j = 3 ∨ j = 4 ∨ j = 5 ∨ j = 6 ∨ j = 7) with rfl | rfl | rfl | rfl | rfl | rfl | rfl | rfl <;> exact ⟨_, _, rfl, by decide⟩
theorem pair_all {a b : UInt8} (h : pairsB.contains [a, b] = true) : ∃ j, j < 8 ∧ pairAt j = ⟨#[a, b]⟩ := by
  simp only [pairsB, List.contains_eq_mem, List.mem_cons, List.not_mem_nil, or_false, decide_eq_true_eq, List.cons.injEq, and_true] at h
  rcases h with ⟨rfl, rfl⟩ | ⟨rfl, rfl⟩ | ⟨rfl, rfl⟩ | ⟨rfl, rfl⟩ | ⟨rfl, rfl⟩ | ⟨rfl, rfl⟩ | ⟨rfl, rfl⟩ | ⟨rfl, rfl⟩
  · exact ⟨0, by decide, rfl⟩
  · exact ⟨1, by decide, rfl⟩
  · exact ⟨2, by decide, rfl⟩
  · exact ⟨3, by decide, rfl⟩
  · exact ⟨4, by decide, rfl⟩
  · exact ⟨5, by decide, rfl⟩
  · exact ⟨6, by decide, rfl⟩
  · exact ⟨7, by decide, rfl⟩
def pfx (s : B) (p : ByteArray) : Bool := Lib.hasPrefix s p.data.toList
theorem pfx_two (s : B) (a b : UInt8) : pfx s ⟨#[a, b]⟩ = true ↔ s.take 2 = [a, b] := by
  unfold pfx Lib.hasPrefix
  match s with
  | [] => simp
  | [x] => simp
  | x :: y :: r =>
    simp only [List.isPrefixOf, Bool.and_true, Bool.and_eq_true, beq_iff_eq, List.take_succ_cons, List.take_zero, List.cons.injEq, and_true]
    exact ⟨fun h => ⟨h.1.symm, h.2.symm⟩, fun h => ⟨h.1.symm, h.2.symm⟩⟩
theorem sg_hit {s : B} {x : ByteArray} {k : Nat} {pre : List ByteArray} (hk : k ≤ 8) (h : pre ++ [x] = upto pairAt k) (hp : pfx s x = true) : x = ⟨(sgB s).toArray⟩ := by
  have hx : x ∈ upto pairAt k := by rw [← h]; simp
  simp only [upto, List.mem_map, List.mem_range] at hx
  obtain ⟨j, hj, rfl⟩ := hx
  obtain ⟨a, b, e, hc⟩ := pair_list j (by omega)
  rw [e] at hp ⊢
  have := (pfx_two s a b).1 hp
  unfold sgB
  rw [this, if_pos hc]
theorem sg_miss {s : B} (h : ∀ x ∈ upto pairAt 8, pfx s x = false) : sgB s = if signsB.contains (s.headD 0) then s.take 1 else [] := by
  unfold sgB
  rw [if_neg]
  intro hc
  obtain ⟨a, b, e, _⟩ := pair_is hc
  rw [e] at hc
  obtain ⟨j, hj, ej⟩ := pair_all hc
  have := h (pairAt j) (by simp only [upto, List.mem_map, List.mem_range]; exact ⟨j, hj, rfl⟩)
  rw [ej, (pfx_two s a b).2 e] at this
  cases this
end Go.Proofs.YtfiebpcambdbaaaDoor
