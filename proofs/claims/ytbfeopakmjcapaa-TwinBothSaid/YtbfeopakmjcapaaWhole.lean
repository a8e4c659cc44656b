/-
  What Get of package buffer does: the newest waiting store of a word; by a range over slices.Backward.
-/
import Derived.Test.YtbfeopakmjcapaaBufP
import Derived.RangeFuncNested
import Derived.RangeFuncBound
import Derived.RangeFuncCalls
import Derived.RangeFuncLeaves
import Derived.Shelf.Abstract
import Derived.Shelf.RegionOpen
import Derived.OwnWalkIn
import Derived.TacticsInMore
import Derived.LoopNIn
import Derived.LoopIn
import Derived.Test.YtbfeopakmjcapaaMem
import Derived.Deep.MidRow
set_option linter.unusedVariables false
set_option linter.unusedSimpArgs false
set_option maxHeartbeats 4000000
set_option maxRecDepth 8000
namespace Go.Proofs.Ytbfeopakmjcapaa
open Go.RowKit Go.Shelf
attribute [local go_sem] Oper.semAt_some
attribute [local irreducible] wpStill wpList Calls CallsIn

/-- f 0, .., f (k - 1). -/
def upto {α : Type} (f : Nat → α) (k : Nat) : List α := (List.range k).map f
theorem upto_succ {α : Type} (f : Nat → α) (k : Nat) : upto f (k + 1) = upto f k ++ [f k] := by simp [upto, List.range_succ]
theorem upto_length {α : Type} (f : Nat → α) (k : Nat) : (upto f k).length = k := by simp [upto]

/-- What comes at round j: the place and the store. -/
def fromBack (l : List (Int × Int)) (j : Nat) : Nat × Int × Int := (l.length - 1 - j, l.getD (l.length - 1 - j) (0, 0))

theorem fromBack_take (l : List (Int × Int)) (k : Nat) (hk : k ≤ l.length) : (upto (fromBack l) k).map (·.2) = l.reverse.take k := by
  apply List.ext_getElem
  · simp [upto]; omega
  · intro i h1 h2
    simp [upto] at h1
    simp [upto, fromBack, List.getD, show l.length - 1 - i < l.length by omega]

set_option maxRecDepth 100000 in
set_option maxHeartbeats 2000000 in
theorem bw1 (n : Nat) (hn : 1 ≤ n) (lp Bs n₀ b off cap : Nat) (l : List (Int × Int)) (hreach : l.length ≤ 1000) (hb : b < n₀) (J Jx : List (Nat × Int × Int) → World → Prop)
    (hY : ∀ pre x W, J pre W → pre.length < l.length → YieldAt Fence.wide (n - 1) Try.prog lp #[.int .i64 (x.1 : Int), .agg #[.int .i64 x.2.1, .int .i64 x.2.2]] W fun e W' =>
      (e = .returned (.bool true) ∧ J (pre ++ [x]) W' ∧ Below n₀ W W') ∨ (e = .returned (.bool false) ∧ Jx (pre ++ [x]) W'))
    (W : World) (hBs : W.cell? ⟨Bs, 0, none⟩ = some (.slice (some ⟨b, off, none⟩) l.length cap)) (hBs2 : Bs < n₀)
    (hc : ∀ j u, (ent l)[j]? = some u → W.cell? ⟨b, off + j, none⟩ = some u) (h0 : J [] W) :
    CallsIn Fence.wide n Try.prog 119 #[.func (.yield lp) #[] #[], .pointer (some ⟨Bs, 0, none⟩)] W fun e W' => (∃ v, e = .returned v) ∧
      ((∃ ys, ys = upto (fromBack l) l.length ∧ J ys W') ∨ (∃ pre, (∃ k, k ≤ l.length ∧ pre = upto (fromBack l) k) ∧ Jx pre W')) := by
  have hC := hid hc
  clear hc
  refine callsIn_of_wp Try.func119 rfl trivial ?_ rfl
  simp only [Try.ntmps119, List.size_toArray, List.length_cons, List.length_nil, Nat.reduceAdd, Nat.reduceSub, Array.replicate_succ, Array.replicate_zero, List.push_toArray, List.append_toArray, List.nil_append, List.cons_append]
  gi_wp2
  gi_loopw [3] (fun i wr => ∃ m : Nat, m ≤ l.length ∧ i = .int .i64 ((m : Int) - 1) ∧ J (upto (fromBack l) (l.length - m)) wr ∧ Below n₀ W wr)
    (fun i _ => (intOf i + 1).toNat)
  case atStart => exact ⟨l.length, Nat.le_refl _, rfl, by simpa [upto] using h0, Below.refl _ _⟩
  case round =>
    obtain ⟨m, hm, hi, hJs, hnx⟩ := hrel
    cases m with
    | zero =>
      subst hi
      gi_wp2
      go_end0
      exact ⟨⟨_, rfl⟩, .inl ⟨_, rfl, by simpa using hJs⟩⟩
    | succ m =>
      rw [show ((m + 1 : Nat) : Int) - 1 = (m : Int) by omega] at hi
      subst hi
      have hcx0 := (hnx.cell (p := ⟨b, off + m * 2, none⟩) hb).trans (hC.out (m * 2) _ (ent_get l m (by omega)).1)
      have hcx1 : wr.cell? ⟨b, off + m * 2 + 1, none⟩ = some (.int .i64 l[m].2) := (hnx.cell (p := ⟨b, off + m * 2 + 1, none⟩) hb).trans (hC.out (m * 2 + 1) _ (ent_get l m (by omega)).2)
      have hbx := (hnx.cell (p := ⟨Bs, 0, none⟩) hBs2).trans hBs
      have hfb : fromBack l (l.length - (m + 1)) = (m, l[m].1, l[m].2) := by
        unfold fromBack
        rw [show l.length - 1 - (l.length - (m + 1)) = m by omega]
        simp [List.getD, show m < l.length by omega]
      obtain ⟨fn, tmps, assign, body, hy, hR⟩ := hY _ (m, l[m].1, l[m].2) wr hJs (by rw [upto_length]; omega)
      dsimp only at hy
      have hlt : m < l.length := by omega
      have HF := hid hfb
      clear hfb
      gi_wp2
      refine hR.mono ?_
      rintro e W3 (⟨rfl, hJ3, hk3⟩ | ⟨rfl, hJx3⟩)
      · gi_wp2
        go_roundw
        case rel =>
          refine ⟨m, by omega, rfl, ?_, hnx.trans hk3⟩
          rw [show l.length - m = (l.length - (m + 1)) + 1 by omega, upto_succ, HF.out]
          exact hJ3
        case measure => simp [intOf]
      · gi_wp2
        refine bodyPost_ret (results_none rfl _ _ _) rfl ?_
        refine ⟨⟨_, rfl⟩, .inr ⟨_, ⟨l.length - m, by omega, ?_⟩, hJx3⟩⟩
        rw [show l.length - m = (l.length - (m + 1)) + 1 by omega, upto_succ, HF.out]

set_option maxHeartbeats 1000000 in
theorem bw1_nil (n : Nat) (lp Bs cap : Nat) (ao : Option Addr) (J : List (Nat × Int × Int) → World → Prop) (W : World) (hBs : W.cell? ⟨Bs, 0, none⟩ = some (.slice ao 0 cap)) (h0 : J [] W) :
    CallsIn Fence.wide n Try.prog 119 #[.func (.yield lp) #[] #[], .pointer (some ⟨Bs, 0, none⟩)] W fun e W' => (∃ v, e = .returned v) ∧ J [] W' := by
  refine callsIn_of_wp Try.func119 rfl trivial ?_ rfl
  simp only [Try.ntmps119, List.size_toArray, List.length_cons, List.length_nil, Nat.reduceAdd, Nat.reduceSub, Array.replicate_succ, Array.replicate_zero, List.push_toArray, List.append_toArray, List.nil_append, List.cons_append]
  gi_wp2
  gi_loopw [3] (fun i wr => i = .int .i64 (-1) ∧ J [] wr) (fun _ _ => 0)
  case atStart => exact ⟨rfl, h0⟩
  case round =>
    obtain ⟨rfl, hJs⟩ := hrel
    gi_wp2
    go_end0
    exact ⟨⟨_, rfl⟩, hJs⟩

theorem bw_yes (ao : Option Addr) (len cap : Nat) (w : World) :
    Calls Try.prog 97 #[.slice ao len cap] w fun e w' => e = .returned (.func (.func 119) #[] #[.pointer (some ⟨w.heap.size, 0, none⟩)]) ∧ w' = w.alloc (.cells #[.slice ao len cap] 43) := by
  go_enter Try.func97, Try.ntmps97
  go_wp2
  go_ret
  exact ⟨rfl, rfl⟩

/-- slices.Backward's value over stores: all of them from the last one on; or the first ones of these. -/
theorem bw_stops (n : Nat) (hn : 1 ≤ n) (Bs n₀ cap : Nat) (ao : Option Addr) (l : List (Int × Int)) (hreach : l.length ≤ 1000) (w : World) (hBs : Bs < n₀) (hn₀ : n₀ ≤ w.heap.size)
    (hc : w.cell? ⟨Bs, 0, none⟩ = some (.slice ao l.length cap)) (hv : Vw w 2 (fun k => k < n₀) ao l.length (ent l)) :
    SeqStopsK Fence.wide n Try.prog 119 #[.pointer (some ⟨Bs, 0, none⟩)] (fun x : Nat × Int × Int => #[Value.int .i64 (x.1 : Int), .agg #[.int .i64 x.2.1, .int .i64 x.2.2]]) (Below n₀)
      (fun ys => ys.map (·.2) = l.reverse) (fun pre => pre.map (·.2) <+: l.reverse) l.length w := fun lp J Jx W hW _ _ hY h0 => by
  have hc' := (hW.cell (p := ⟨Bs, 0, none⟩) (by dsimp only; omega)).trans hc
  by_cases hl : l = []
  · subst hl
    exact (bw1_nil n lp Bs cap ao J W hc' h0).mono fun e W' ⟨he, hj⟩ => ⟨he, .inl ⟨[], rfl, hj⟩⟩
  · obtain ⟨b, off, rfl, hb, hcs⟩ := hv.cell (fun h => hl ((ent_nil_of l).1 h))
    refine (bw1 n hn lp Bs n₀ b off cap l hreach hb J Jx hY W hc' hBs (fun j u hj => (hW.cell (p := ⟨b, off + j, none⟩) (by dsimp only; omega)).trans (hcs j u hj)) h0).mono ?_
    rintro e W' ⟨he, ⟨ys, rfl, hj⟩ | ⟨pre, ⟨k, hk, rfl⟩, hj⟩⟩
    · exact ⟨he, .inl ⟨_, (fromBack_take l _ (Nat.le_refl _)).trans (by rw [← List.length_reverse, List.take_length]), hj⟩⟩
    · exact ⟨he, .inr ⟨_, (show (upto (fromBack l) k).map (·.2) <+: l.reverse by rw [fromBack_take l k hk]; exact List.take_prefix _ _), hj⟩⟩

/-- What the newest store of a word is to have. -/
def getL (l : List (Int × Int)) (at' : Int) : Int × Bool :=
  match l.reverse.find? (fun e => e.1 == at') with
  | some e => (e.2, true)
  | none => (0, false)

theorem get_none {l : List (Int × Int)} {at' : Int} {ys : List (Nat × Int × Int)} (h : ys.map (·.2) = l.reverse) (hn : ∀ y ∈ ys, y.2.1 ≠ at') : getL l at' = (0, false) := by
  unfold getL
  rw [List.find?_eq_none.2]
  intro e he
  rw [← h, List.mem_map] at he
  obtain ⟨y, hy, rfl⟩ := he
  simpa using hn y hy

theorem get_some {l : List (Int × Int)} {at' y : Int} {i : Nat} {pre : List (Nat × Int × Int)} (h : (pre ++ [(i, at', y)]).map (·.2) <+: l.reverse) (hn : ∀ y ∈ pre, y.2.1 ≠ at') : getL l at' = (y, true) := by
  unfold getL
  obtain ⟨r, hr⟩ := h
  rw [← hr]
  have : List.find? (fun e : Int × Int => e.1 == at') (pre.map (·.2)) = none := by
    rw [List.find?_eq_none]
    intro e he
    rw [List.mem_map] at he
    obtain ⟨y, hy, rfl⟩ := he
    simpa using hn y hy
  simp [this]

set_option maxRecDepth 100000 in
set_option maxHeartbeats 2000000 in
theorem get_core (recv : Option Addr) (l : List (Int × Int)) (at' : Int) (w : World) (hlen : l.length ≤ 1000)
    (hall : ∀ w', Fr (fun _ => False) w w' → Calls Try.prog 63 #[.pointer recv] w' fun e w'' => ∃ ao' cap', e = .returned (.slice ao' l.length cap') ∧ OwnAt w'' 124 2 (fun k => w'.heap.size ≤ k) ao' l.length cap' (ent l) ∧ Fr (fun _ => False) w' w'') :
    Calls Try.prog 93 #[.pointer recv, .int .i64 at'] w fun e w' => e = .returned (.tuple #[.int .i64 (getL l at').1, .bool (getL l at').2]) ∧ Fr (fun _ => False) w w' := by
  have HB := hid hall
  clear hall
  refine (callsIn_wide (n := 6)).1 ?_
  refine callsIn_of_wp_marks Try.func93 rfl trivial ?_ rfl
  simp only [Try.ntmps93, List.size_toArray, List.length_cons, List.length_nil, Nat.reduceAdd, Nat.reduceSub, Array.replicate_succ, Array.replicate_zero, List.push_toArray, List.append_toArray, List.nil_append, List.cons_append]
  gi_wp2_with (first | (refine ⟨trivial, ?_⟩; gi_at_call 63; refine (callsIn_wide.2 (HB.out _ (by (with_reducible repeat' (first | exact Fr.refl _ _ | apply Fr.alloc | apply Fr.drew | apply Fr.drewN | refine Fr.setCell ?_ ?_ _))))).mono ?_; rintro e w1 ⟨ab, cb, rfl, ho1, hf1⟩; have HO1 := hid ho1; have HF1 := hid hf1; clear ho1 hf1) | (refine ⟨trivial, ?_⟩; gi_at_call 97; refine (callsIn_wide.2 (bw_yes _ _ _ _)).mono ?_; rintro e w2 ⟨rfl, rfl⟩))
  have hs1 : w.heap.size + 3 ≤ w1.heap.size := by have := HF1.out.size; simp at this; omega
  have k0 : Blk w1 w.heap.size #[.int .i64 at'] 2 := (((Blk.new w #[.int .i64 at'] 2).alloc _).alloc _).fr HF1.out (fun h => h)
  have k1 : Blk w1 (w.heap.size + 1) #[.int .i64 0] 2 := by
    have h := ((Blk.new (w.alloc (.cells #[.int .i64 at'] 2)) #[.int .i64 0] 2).alloc (.cells #[.bool false] 4)).fr HF1.out (fun h => h)
    simpa using h
  have k2 : Blk w1 (w.heap.size + 2) #[.bool false] 4 := by
    have h := (Blk.new ((w.alloc (.cells #[.int .i64 at'] 2)).alloc (.cells #[.int .i64 0] 2)) #[.bool false] 4).fr HF1.out (fun h => h)
    simpa using h
  have hB0 : Below w.heap.size w (w1.alloc (.cells #[.slice ab l.length cb] 43)) := by
    have h : Fr (fun _ => False) w w1 := (show Fr (fun _ => False) w _ by (with_reducible repeat' (first | exact Fr.refl _ _ | apply Fr.alloc | apply Fr.drew | apply Fr.drewN | refine Fr.setCell ?_ ?_ _))).trans HF1.out (fun _ _ h => h)
    exact (h.alloc _).below (Nat.le_refl _) (fun _ _ h => h)
  have hvw : Vw (w1.alloc (.cells #[.slice ab l.length cb] 43)) 2 (fun k => k < (w1.alloc (.cells #[.slice ab l.length cb] 43)).heap.size) ab l.length (ent l) := by
    have h := (HO1.out.fr (S := fun _ => False) (w1 := w1.alloc (.cells #[.slice ab l.length cb] 43)) (by (with_reducible repeat' (first | exact Fr.refl _ _ | apply Fr.alloc | apply Fr.drew | apply Fr.drewN | refine Fr.setCell ?_ ?_ _))) (fun _ _ h => h)).mono (R2 := fun k => k < (w1.alloc (.cells #[.slice ab l.length cb] 43)).heap.size) (fun k h _ => h)
    exact h.vw
  have cb0 : (w1.alloc (.cells #[.slice ab l.length cb] 43)).cell? ⟨w1.heap.size, 0, none⟩ = some (.slice ab l.length cb) := by rw [(Blk.new w1 _ _).cell]; rfl
  have c0 := (k0.alloc (.cells #[.slice ab l.length cb] 43)).cell 0
  have c1 := (k1.alloc (.cells #[.slice ab l.length cb] 43)).cell 0
  have c2 := (k2.alloc (.cells #[.slice ab l.length cb] 43)).cell 0
  have f1 := (k1.alloc (.cells #[.slice ab l.length cb] 43)).free 0
  have f2 := (k2.alloc (.cells #[.slice ab l.length cb] 43)).free 0
  simp at c0 c1 c2
  clear k0 k1 k2
  generalize hW0 : w1.alloc (.cells #[.slice ab l.length cb] 43) = W0 at *
  have hs0 : W0.heap.size = w1.heap.size + 1 := by rw [← hW0]; simp
  clear hW0
  refine wpIn_rangeFunc_ownH (α := Nat × Int × Int) rfl (by omega) (gf := 119) (lb := #[.pointer (some ⟨w1.heap.size, 0, none⟩)]) rfl trivial (enters_of Try.func119 (by kernel_rfl) rfl)
    (bw_stops (6 - 1) (by omega) w1.heap.size W0.heap.size cb ab l hlen W0 (by omega) (Nat.le_refl _) cb0 hvw) belowK_t (belowK_b (Nat.le_refl _)) (Below.refl _ _) (fun _ => rfl)
    (fun pre W => ((∀ y ∈ pre, y.2.1 ≠ at') ∧ W.cell? ⟨w.heap.size, 0, none⟩ = some (.int .i64 at') ∧ W.cell? ⟨w.heap.size + 1, 0, none⟩ = some (.int .i64 0) ∧ W.cell? ⟨w.heap.size + 2, 0, none⟩ = some (.bool false) ∧ W.frozen? ⟨w.heap.size + 1, 0, none⟩ = false ∧ W.frozen? ⟨w.heap.size + 2, 0, none⟩ = false ∧ W0.heap.size ≤ W.heap.size) ∧ Below w.heap.size w W)
    (fun c pre W => (c = .ret ∧ ∃ pre' i y, pre = pre' ++ [(i, at', y)] ∧ (∀ y ∈ pre', y.2.1 ≠ at') ∧ W.cell? ⟨w.heap.size + 1, 0, none⟩ = some (.int .i64 y) ∧ W.cell? ⟨w.heap.size + 2, 0, none⟩ = some (.bool true)) ∧ Below w.heap.size w W)
    (OwnFrom.and (Own.from (fun s A B row hs hg hr => ⟨hs.1, cell_kept hs.2.1 hg hr, cell_kept hs.2.2.1 hg hr, cell_kept hs.2.2.2.1 hg hr, (frozen_kept hs.2.2.1 hg hr).trans hs.2.2.2.2.1, (frozen_kept hs.2.2.2.1 hg hr).trans hs.2.2.2.2.2.1, Nat.le_trans hs.2.2.2.2.2.2 hg.size⟩) _) (ownFrom_below (Nat.le_refl _) (by omega)))
    (fun c => OwnFrom.and (Own.from (fun s A B row hs hg hr => ⟨hs.1, let ⟨pre', i, y, e, hn, h1, h2⟩ := hs.2; ⟨pre', i, y, e, hn, cell_kept h1 hg hr, cell_kept h2 hg hr⟩⟩) _) (ownFrom_below (Nat.le_refl _) (by omega)))
    ⟨⟨by simp, c0, c1, c2, f1, f2, Nat.le_refl _⟩, hB0⟩
    (fun x a' W => ∃ Bx, w.heap.size + 2 < Bx ∧ W.cell? ⟨Bx, 0, none⟩ = some (.int .i64 x.2.1) ∧ W.cell? ⟨Bx, 1, none⟩ = some (.int .i64 x.2.2) ∧
      a' = { tmps := #[.pointer recv, .int .i64 at', undef, .pointer (some ⟨w.heap.size, 0, none⟩), .pointer (some ⟨w.heap.size + 1, 0, none⟩), .pointer (some ⟨w.heap.size + 2, 0, none⟩), undef, .pointer (some ⟨Bx, 0, none⟩), .pointer recv, .slice ab l.length cb, .func (.func 119) #[] #[.pointer (some ⟨w1.heap.size, 0, none⟩)], .int .i64 (x.1 : Int), .agg #[.int .i64 x.2.1, .int .i64 x.2.2], undef, undef, undef, undef, undef, undef], defers := [] })
    (fun x a' => Own.from (fun s A B row hs hg hr => let ⟨Bx, hlt, h0, h1, e⟩ := hs; ⟨Bx, hlt, cell_kept h0 hg hr, cell_kept h1 hg hr, e⟩) _) ?assign ?body ?done ?stop
  case assign =>
    rintro lp pre x W K ⟨⟨hp, h0, h1, h2, g1, g2, hsz⟩, hB⟩ hK
    have hbs := hB.size
    have HK := hid hK
    have HP := hid hp
    have HB2 := hid hB
    clear hK hp hB
    gi_wp2
    refine HK.out _ _ (KeepsOthers.from (KeepsOthers.alloc _ _) _) ((Below.refl _ W).alloc hsz _) ⟨⟨HP.out, ?_, ?_, ?_, ?_, ?_, by simp; omega⟩, HB2.out.alloc hbs _⟩ ⟨W.heap.size, by omega, ?_, ?_, rfl⟩
    all_goals (first | (rw [World.cell?_alloc_lt _ _ _ (by dsimp only; omega)]; assumption) | (exact (((Fr.refl (fun _ => False) W).alloc _).frozen (by dsimp only; omega) (fun h => h)).trans g1) | (exact (((Fr.refl (fun _ => False) W).alloc _).frozen (by dsimp only; omega) (fun h => h)).trans g2) | (rw [(Blk.new W _ _).cell]; rfl) | skip)
  case body =>
    rintro lp pre x ax W hl ⟨rr, hr⟩ ⟨⟨hp, h0, h1, h2, g1, g2, hsz⟩, hB⟩ ⟨Bx, hBx, b0, b1, rfl⟩ hlt
    have HP := hid hp
    have HB2 := hid hB
    clear hp hB hr
    by_cases hx : x.2.1 = at'
    · have hxb : (x.2.1 == at') = true := by simpa using hx
      have HX := hid hx
      clear hx
      gi_wp2
      refine ⟨((KeepsOthers.setCell _ _ _).trans (KeepsOthers.setCell _ _ _)).from _, ⟨rfl, pre, x.1, x.2.2, by rw [← HX.out], HP.out, ?_, ?_⟩, ?_⟩
      · rw [World.cell?_setCell_other _ _ _ _ (by simp)]
        exact World.cell?_setCell_same _ _ _ h1
      · refine World.cell?_setCell_same (u := .bool false) _ _ _ ?_
        rw [World.cell?_setCell_other _ _ _ _ (by simp)]
        exact h2
      · exact (HB2.out.setCell (by simp) _).setCell (by simp) _
    · have hxb : (x.2.1 == at') = false := by simpa using hx
      have HX := hid hx
      clear hx
      gi_wp2
      refine ⟨KeepsFrom.refl _ _, Below.refl _ _, ⟨fun y hy => ?_, h0, h1, h2, g1, g2, hsz⟩, HB2.out⟩
      rcases List.mem_append.1 hy with h | h
      · exact HP.out y h
      · simp at h; subst h; exact HX.out
  case done =>
    rintro D ys W hD hS ⟨⟨hp, h0, h1, h2, g1, g2, hsz⟩, hB⟩ hK
    have HG := hid (get_none hS hp)
    have HB2 := hid hB
    have HK := hid hK
    have HD := hid hD
    clear hS hp hB hK hD
    gi_wp2
    have hK' := ((KeepsOthers.setCell W ⟨w.heap.size + 1, 0, none⟩ (.int .i64 0)).trans (KeepsOthers.setCell _ ⟨w.heap.size + 1 + 1, 0, none⟩ (.bool false))).same D _ HK.out rfl
    refine ⟨by simp, .inl ⟨_, _, rfl, run_takeDeferred hK', ?_⟩⟩
    have e1 : ((W.setCell ⟨w.heap.size + 1, 0, none⟩ (.int .i64 0)).setCell ⟨w.heap.size + 1 + 1, 0, none⟩ (.bool false)).cell? ⟨w.heap.size + 1, 0, none⟩ = some (.int .i64 0) := by
      rw [World.cell?_setCell_other _ _ _ _ (by simp)]
      exact World.cell?_setCell_same _ _ _ h1
    have e2 : ((W.setCell ⟨w.heap.size + 1, 0, none⟩ (.int .i64 0)).setCell ⟨w.heap.size + 1 + 1, 0, none⟩ (.bool false)).cell? ⟨w.heap.size + 1 + 1, 0, none⟩ = some (.bool false) := by
      refine World.cell?_setCell_same (u := .bool false) _ _ _ ?_
      rw [World.cell?_setCell_other _ _ _ _ (by simp)]
      exact h2
    have c1 := cell_kept e1 (grownBy_putObj' _ D (.deferred none)) (fun r e => by cases e; exact ⟨_, hK', rfl⟩)
    have c2 := cell_kept e2 (grownBy_putObj' _ D (.deferred none)) (fun r e => by cases e; exact ⟨_, hK', rfl⟩)
    refine ⟨.tuple #[.int .i64 0, .bool false], ?_, by rw [HG.out], ?_⟩
    · simp [results, Try.f93, go_sem, c1, c2]
    · have hb := ((HB2.out.setCell (p := ⟨w.heap.size + 1, 0, none⟩) (by simp) (.int .i64 0)).setCell (p := ⟨w.heap.size + 1 + 1, 0, none⟩) (by simp; omega) (.bool false)).trans (belowK_b (w := w) (Nat.le_refl _) _ D _ (.deferred none) (by have := HD.out; omega) hK' rfl rfl)
      exact (Fr.of_below hb).mono (fun k hk h => by omega)
  case stop =>
    rintro D c pre W hD hpre ⟨⟨rfl, pre', i, y, rfl, hn, h1, h2⟩, hB⟩ hK
    have HG := hid (get_some hpre hn)
    have HB2 := hid hB
    have HK := hid hK
    have HD := hid hD
    clear hpre hn hB hK hD
    gi_wp2
    refine ⟨by simp, .inl ⟨_, _, rfl, run_takeDeferred HK.out, ?_⟩⟩
    have c1 := cell_kept h1 (grownBy_putObj' _ D (.deferred none)) (fun r e => by cases e; exact ⟨_, HK.out, rfl⟩)
    have c2 := cell_kept h2 (grownBy_putObj' _ D (.deferred none)) (fun r e => by cases e; exact ⟨_, HK.out, rfl⟩)
    refine ⟨.tuple #[.int .i64 y, .bool true], ?_, by rw [HG.out], ?_⟩
    · simp [results, Try.f93, go_sem, c1, c2]
    · have hb := HB2.out.trans (belowK_b (w := w) (Nat.le_refl _) W D _ (.deferred none) (by have := HD.out; omega) HK.out rfl rfl)
      exact (Fr.of_below hb).mono (fun k hk h => by omega)

theorem get_yes (b : Nat) (R : Nat → Prop) (room : Nat) (l : List (Int × Int)) (at' : Int) (w : World) (hb : BufRep w b R room l) :
    Calls Try.prog 93 #[.pointer (some ⟨b, 0, none⟩), .int .i64 at'] w fun e w' => e = .returned (.tuple #[.int .i64 (getL l at').1, .bool (getL l at').2]) ∧ Fr (fun _ => False) w w' :=
  get_core (some ⟨b, 0, none⟩) l at' w (by have := hb.2.1; have := hb.2.2.1; omega) (fun w' h => all_yes b R room l w' (hb.fr h (fun h => h) (fun _ _ h => h)))

theorem get_nil (at' : Int) (w : World) :
    Calls Try.prog 93 #[.pointer none, .int .i64 at'] w fun e w' => e = .returned (.tuple #[.int .i64 0, .bool false]) ∧ Fr (fun _ => False) w w' :=
  get_core none [] at' w (by simp) (fun w' _ => (all_nil w').mono fun e w'' ⟨he, hw⟩ => ⟨none, 0, he, OwnAt.nil _ _ _ _ _, by subst hw; exact Fr.refl _ _⟩)

end Go.Proofs.Ytbfeopakmjcapaa

/-
  The contracts of package buffer, each in one form for all states; and at no buffer (nil).
-/
namespace Go.Proofs.Ytbfeopakmjcapaa
open Go.RowKit
attribute [local irreducible] wpStill wpList Calls CallsIn

def pushL (room : Nat) (l : List (Int × Int)) (e : Int × Int) : List (Int × Int) := if l.length < room then l ++ [e] else l
def headL (l : List (Int × Int)) : Int × Int := l.headD (0, 0)

theorem push_all (b : Nat) (R : Nat → Prop) (room : Nat) (l : List (Int × Int)) (x y : Int) (w : World) (hb : BufRep w b R room l) :
    Calls Try.prog 83 #[.pointer (some ⟨b, 0, none⟩), .agg #[.int .i64 x, .int .i64 y]] w fun e w' => e = .returned (.bool (decide (l.length < room))) ∧
      BufRep w' b (fun k => R k ∨ w.heap.size ≤ k) room (pushL room l (x, y)) ∧ Fr (fun k => k = b ∨ R k) w w' := by
  by_cases h : l.length < room
  · refine (push_yes b R room l x y w hb h).mono ?_
    rintro e w' ⟨rfl, h1, h2⟩
    simp only [pushL, h, if_true, decide_true]
    exact ⟨trivial, h1, h2⟩
  · refine (push_no b R room l x y w hb (by have := hb.2.2.1; omega)).mono ?_
    rintro e w' ⟨rfl, h2⟩
    simp only [pushL, h, if_false, decide_false]
    refine ⟨trivial, (hb.fr h2 (fun h => h) (fun _ _ h => h)).mono (fun k _ h => .inl h) (fun h => ?_), h2.mono (fun _ _ h => h.elim)⟩
    rcases h with h | h
    · exact hb.2.2.2.1 h
    · have := hb.lt; omega

theorem pop_all (b : Nat) (R : Nat → Prop) (room : Nat) (l : List (Int × Int)) (w : World) (hb : BufRep w b R room l) :
    Calls Try.prog 80 #[.pointer (some ⟨b, 0, none⟩)] w fun e w' => e = .returned (.tuple #[.agg #[.int .i64 (headL l).1, .int .i64 (headL l).2], .bool (decide (0 < l.length))]) ∧
      BufRep w' b R room l.tail ∧ Fr (fun k => k = b) w w' := by
  cases l with
  | nil =>
    refine (pop_none b R room w hb).mono ?_
    rintro e w' ⟨rfl, h2⟩
    exact ⟨rfl, hb.fr h2 (fun h => h) (fun _ _ h => h), h2.mono (fun _ _ h => h.elim)⟩
  | cons e l =>
    refine (pop_some b R room e.1 e.2 l w hb).mono ?_
    rintro e' w' ⟨rfl, h1, h2⟩
    exact ⟨rfl, h1, h2⟩

theorem cut_all (b : Nat) (R : Nat → Prop) (room : Nat) (l : List (Int × Int)) (n : Int) (w : World) (hb : BufRep w b R room l) :
    Calls Try.prog 82 #[.pointer (some ⟨b, 0, none⟩), .int .i64 n] w fun e w' => e = .returned (.tuple #[]) ∧ BufRep w' b R room (l.take n.toNat) ∧ Fr (fun k => k = b) w w' := by
  by_cases h : n < 0
  · rw [show n.toNat = 0 by omega]
    simpa using cut_neg b R room l n w hb h
  · have h1 := cut_nat b R room l n.toNat w hb
    rwa [show ((n.toNat : Nat) : Int) = n by omega] at h1

theorem new_all (room : Int) (w : World) :
    Calls Try.prog 53 #[.int .i64 room] w fun e w' => e = .returned (.pointer (if 1 ≤ room ∧ room ≤ 1000 then some ⟨w.heap.size, 0, none⟩ else none)) ∧ Fr (fun _ => False) w w' ∧
      (1 ≤ room ∧ room ≤ 1000 → BufRep w' w.heap.size (fun _ => False) room.toNat []) := by
  by_cases h : 1 ≤ room ∧ room ≤ 1000
  · have h1 := new_yes room.toNat w (by omega) (by omega)
    rw [show ((room.toNat : Nat) : Int) = room by omega] at h1
    refine h1.mono ?_
    rintro e w' ⟨rfl, h2, h3⟩
    rw [if_pos h]
    exact ⟨rfl, h3, fun _ => h2⟩
  · refine (new_no room w (by omega)).mono ?_
    rintro e w' ⟨rfl, h3⟩
    rw [if_neg h]
    exact ⟨rfl, h3, fun h' => absurd h' h⟩

theorem pop_nil (w : World) : Calls Try.prog 80 #[.pointer none] w fun e w' => e = .returned (.tuple #[.agg #[.int .i64 0, .int .i64 0], .bool false]) ∧ Fr (fun _ => False) w w' := by
  go_enter Try.func80, Try.ntmps80
  go_wp2_with (first | (go_at_call 94; refine (len_nil _).mono ?_; rintro e w' ⟨rfl, rfl⟩) | still_step | (with_reducible first | refine wpStill_nil ?_ | refine Flow.Both.mk ?_ ?_ | exact True.intro) | (with_reducible refine Flow.same_mk rfl rfl rfl ?_; go_simp; done) | (with_reducible exact Flow.same_un rfl rfl rfl) | (refine Flow.region_still mixed ?hB ?_; (case hB => decide +kernel)))
  exact bodyPost_ret (v := .tuple #[.agg #[.int .i64 0, .int .i64 0], .bool false]) (by simp [results, Try.results80, go_sem]) rfl ⟨rfl, by (with_reducible repeat' (first | exact Fr.refl _ _ | apply Fr.alloc | apply Fr.drew | apply Fr.drewN | refine Fr.setCell ?_ ?_ _))⟩
end Go.Proofs.Ytbfeopakmjcapaa

/-
  Structs and arrays by value: a block that is known whole is stored into, loaded from, and handed back.
-/
namespace Go.Proofs.Ytbfeopakmjcapaa
open Go.RowKit

theorem Blk.new' {w : World} {b : Nat} {cs : Array Value} {T : TypeId} (h : b = w.heap.size) : Blk (w.alloc (.cells cs T)) b cs T := by subst h; exact Blk.new w cs T

section
variable {P : Program}

theorem there_blk {w : World} {b : Nat} {C : Array Value} {T : TypeId} (h : Blk w b C T) (o n : Nat) (hn : o + n ≤ C.size) : w.there b o n := fun j hj => by
  refine ⟨?_, h.free _⟩
  rw [h.cell]
  simp; omega

/-- What is stored at an offset of a block. -/
theorem store_blk {w : World} {b : Nat} {C : Array Value} {T : TypeId} (h : Blk w b C T) (o : Nat) (vs : List Value) (hn : o + vs.length ≤ C.size) :
    Blk (w.setCells b o vs) b (C.toList.take o ++ vs ++ C.toList.drop (o + vs.length)).toArray T ∧ Fr (fun k => k = b) w (w.setCells b o vs) ∧ (w.setCells b o vs).heap.size = w.heap.size := by
  obtain ⟨C', h1, h2, h3, h4⟩ := setCells_heap b vs o w C T h hn
  refine ⟨?_, h3, h4⟩
  rw [← h2]
  simpa using h1

theorem wpList_storeB {ops : Array Oper} {rest : List Oper} {op : Oper} {a : Act} {w : World} {Q : Exit → Act → World → Prop} {ty : TypeId} {x y : Operand} {b o : Nat} {C cells : Array Value} {T : TypeId} (hb : Blk w b C T) (hgd : op.guard = none) (ho : op.op = .store ty x y)
    (hx : a.eval x = .pointer (some ⟨b, o, none⟩)) (hy : a.eval y = .agg cells) (hn : o + cells.size ≤ C.size) (hi : (P.info? ty).map (·.size) = some cells.size) (h1 : cells.toList.all (·.oneCell') = true)
    (h : ∀ w', Blk w' b (C.toList.take o ++ cells.toList ++ C.toList.drop (o + cells.size)).toArray T → Fr (fun k => k = b) w w' → w'.heap.size = w.heap.size → wpList P ops Q rest (a.put op.dst undef) w') : wpList P ops Q (op :: rest) a w := by
  have hs := store_blk hb o cells.toList (by simpa using hn)
  simp only [Array.length_toList] at hs
  exact wpList_store_mid hgd ty x y ho b o cells hx hy (there_blk hb o cells.size hn) hi (by rw [← Array.all_toList]; exact h1) (h _ hs.1 hs.2.1 hs.2.2)

/-- The whole block. -/
theorem wpList_storeW {ops : Array Oper} {rest : List Oper} {op : Oper} {a : Act} {w : World} {Q : Exit → Act → World → Prop} {ty : TypeId} {x y : Operand} {b : Nat} {C cells : Array Value} {T : TypeId} (hb : Blk w b C T) (hgd : op.guard = none) (ho : op.op = .store ty x y)
    (hx : a.eval x = .pointer (some ⟨b, 0, none⟩)) (hy : a.eval y = .agg cells) (hn : cells.size = C.size) (hi : (P.info? ty).map (·.size) = some cells.size) (h1 : cells.toList.all (·.oneCell') = true)
    (h : ∀ w', Blk w' b cells T → Fr (fun k => k = b) w w' → w'.heap.size = w.heap.size → wpList P ops Q rest (a.put op.dst undef) w') : wpList P ops Q (op :: rest) a w := by
  refine wpList_storeB hb hgd ho hx hy (by omega) hi h1 (fun w' h2 h3 h4 => h w' ?_ h3 h4)
  rw [show C.toList.drop (0 + cells.size) = [] by rw [List.drop_eq_nil_iff]; simp; omega] at h2
  simpa using h2

theorem load_blk {w : World} {b : Nat} {C : Array Value} {T ty : TypeId} (hb : Blk w b C T) (o : Nat) (cs : List Value) (hc : ∀ j v, cs[j]? = some v → C[o + j]? = some v) {d : TypeDesc} (hu : P.underlying ty = some d) (hd : d.isRow = true)
    (hi : (P.info? ty).map (·.size) = some cs.length) : (loadVar ty ⟨b, o, none⟩).run P w = .ok (.agg cs.toArray) w :=
  run_loadVar_mid w b o ty cs d (fun j v hj => by rw [hb.cell]; exact hc j v hj) hu hd hi

theorem wpList_loadB {ops : Array Oper} {rest : List Oper} {op : Oper} {a : Act} {w : World} {Q : Exit → Act → World → Prop} {ty : TypeId} {x : Operand} {b o : Nat} {C : Array Value} {T : TypeId} (cs : List Value) (hb : Blk w b C T) (hc : ∀ j v, cs[j]? = some v → C[o + j]? = some v) (hgd : op.guard = none) (ho : op.op = .load ty x)
    (hx : a.eval x = .pointer (some ⟨b, o, none⟩)) {d : TypeDesc} (hu : P.underlying ty = some d) (hd : d.isRow = true) (hi : (P.info? ty).map (·.size) = some cs.length)
    (h : wpList P ops Q rest (a.put op.dst (.agg cs.toArray)) w) : wpList P ops Q (op :: rest) a w :=
  wpList_load_mid hgd ty x ho b o hx cs d (fun j v hj => by rw [hb.cell]; exact hc j v hj) hu hd hi h

/-- In a still step of a drawn region, or wherever an operation is asked alone. -/
theorem run_loadB {w : World} {op : Oper} {a : Act} {ty : TypeId} {x : Operand} {b o : Nat} {C : Array Value} {T : TypeId} (cs : List Value) (hb : Blk w b C T) (hc : ∀ j v, cs[j]? = some v → C[o + j]? = some v) (ho : op.op = .load ty x)
    (hx : a.eval x = .pointer (some ⟨b, o, none⟩)) {d : TypeDesc} (hu : P.underlying ty = some d) (hd : d.isRow = true) (hi : (P.info? ty).map (·.size) = some cs.length) : (execOp a.eval op).run P w = .ok (.value (.agg cs.toArray)) w := by
  unfold execOp
  simp only [ho, hx, Instr.loadAt, Instr.sureAddr, Sem.run_bind, Sem.run_pure, Result.andThen_ok, load_blk hb o cs hc hu hd hi]

/-- The same three, as an arm of a walk takes them. -/
theorem wpList_storeA {ops : Array Oper} {rest : List Oper} {dst : Option Tmp} {ty tt : TypeId} {x y : Operand} {ps : String} {af : Array Edge} {a : Act} {w : World} {Q : Exit → Act → World → Prop} {b : Nat} {C cells : Array Value} {T : TypeId}
    (zsx : a.eval x = .pointer (some ⟨b, 0, none⟩)) (zsy : a.eval y = .agg cells) (zsn : cells.size = C.size) (zsi : (P.info? ty).map (·.size) = some cells.size) (zs1 : cells.toList.all (·.oneCell') = true) (zsb : Blk w b C T)
    (zsK : ∀ w', Blk w' b cells T → Fr (fun k => k = b) w w' → w'.heap.size = w.heap.size → wpList P ops Q rest (a.put dst undef) w') : wpList P ops Q (⟨dst, .store ty x y, tt, ps, af, none⟩ :: rest) a w :=
  wpList_storeW zsb rfl rfl zsx zsy zsn zsi zs1 zsK

theorem info_get {P : Program} {ty : TypeId} {z : Value} {n : Nat} (h : (P.info? ty).map (fun i => (i.zero, i.size)) = some (some z, n)) : ∃ i, P.info? ty = some i ∧ i.zero = some z ∧ i.size = n := by
  cases hq : P.info? ty with
  | none => rw [hq] at h; cases h
  | some i => rw [hq] at h; simp at h; exact ⟨i, rfl, h.1, h.2⟩

/-- One cell of a block. -/
theorem wpList_setF {ops : Array Oper} {rest : List Oper} {op : Oper} {a : Act} {w : World} {Q : Exit → Act → World → Prop} {ty : TypeId} {x y : Operand} {b o : Nat} {C : Array Value} {T : TypeId} {v : Value} (hb : Blk w b C T) (hgd : op.guard = none) (ho : op.op = .store ty x y)
    (hx : a.eval x = .pointer (some ⟨b, o, none⟩)) (hy : a.eval y = v) (hv : v.cells = #[v]) (h1 : v.oneCell' = true) (hn : o < C.size) (hi : (P.info? ty).map (·.size) = some 1)
    (h : ∀ w', Blk w' b (C.setIfInBounds o v) T → Fr (fun k => k = b) w w' → w'.heap.size = w.heap.size → wpList P ops Q rest (a.put op.dst undef) w') : wpList P ops Q (op :: rest) a w := by
  refine wpList_plain hgd fun K hK => ?_
  have hst := run_storeCells_cells (P := P) b o [v] 0 w (fun j hj => by
      obtain rfl : j = 0 := by simpa using hj
      rw [hb.cell]; simp [hn]) (fun j hj => by
      obtain rfl : j = 0 := by simpa using hj
      exact hb.free _) (fun u hu => by simp at hu; subst hu; exact h1)
  simp only [Nat.add_zero] at hst
  unfold Oper.wp execOp
  cases hq : P.info? ty with
  | none => simp [hq] at hi
  | some i =>
    have hs : i.size = 1 := by simpa [hq] using hi
    simp [ho, hx, hy, Instr.storeAt, Instr.sureAddr, storeVar, sizeOf, typeInfo, hq, hs, hv, hst]
    refine hK _ _ (h _ ?_ ?_ ?_)
    · exact hb.set o v
    · exact Fr.setCell (S := fun k => k = b) (Fr.refl _ w) (fun _ => rfl) v
    · simp [World.setCells]

/-- A block that is made: zeros. -/
theorem wpList_allocF {ops : Array Oper} {rest : List Oper} {op : Oper} {a : Act} {w : World} {Q : Exit → Act → World → Prop} {ty : TypeId} {z : Value} {n : Nat} (hgd : op.guard = none) (ho : op.op = .alloc ty) (hi : (P.info? ty).map (fun i => (i.zero, i.size)) = some (some z, n))
    (h : ∀ w', Blk w' w.heap.size z.cells ty → Fr (fun _ => False) w w' → w'.heap.size = w.heap.size + 1 → wpList P ops Q rest (a.put op.dst (.pointer (some ⟨w.heap.size, 0, none⟩))) w') : wpList P ops Q (op :: rest) a w := by
  refine wpList_plain hgd fun K hK => ?_
  obtain ⟨i, hq, hz, _⟩ := info_get hi
  unfold Oper.wp execOp
  simp [ho, Instr.alloc, zeroValue, typeInfo, hq, hz, newVar, newRow]
  refine hK _ _ (h _ ?_ ?_ ?_)
  · exact Blk.new w _ _
  · exact (Fr.refl _ w).alloc _
  · simp

theorem wpList_allocA {ops : Array Oper} {rest : List Oper} {dst : Option Tmp} {ty tt : TypeId} {ps : String} {af : Array Edge} {a : Act} {w : World} {Q : Exit → Act → World → Prop} {z : Value} {n : Nat} (C : Array Value) (zai : (P.info? ty).map (fun i => (i.zero, i.size)) = some (some z, n)) (zac : z.cells = C)
    (zaK : ∀ w', Blk w' w.heap.size C ty → Fr (fun _ => False) w w' → w'.heap.size = w.heap.size + 1 → wpList P ops Q rest (a.put dst (.pointer (some ⟨w.heap.size, 0, none⟩))) w') : wpList P ops Q (⟨dst, .alloc ty, tt, ps, af, none⟩ :: rest) a w :=
  wpList_allocF rfl rfl zai (by rw [zac]; exact zaK)

/-- A block that is made: a value. -/
theorem wpList_boxF {ops : Array Oper} {rest : List Oper} {op : Oper} {a : Act} {w : World} {Q : Exit → Act → World → Prop} {ty : TypeId} {x : Operand} {v : Value} (hgd : op.guard = none) (ho : op.op = .box ty x) (hx : a.eval x = v)
    (h : ∀ w', Blk w' w.heap.size v.cells ty → Fr (fun _ => False) w w' → w'.heap.size = w.heap.size + 1 → wpList P ops Q rest (a.put op.dst (.pointer (some ⟨w.heap.size, 0, none⟩))) w') : wpList P ops Q (op :: rest) a w := by
  refine wpList_plain hgd fun K hK => ?_
  unfold Oper.wp execOp
  simp [ho, hx, Instr.box, newVar, newRow]
  refine hK _ _ (h _ ?_ ?_ ?_)
  · exact Blk.new w _ _
  · exact (Fr.refl _ w).alloc _
  · simp

theorem results_c1 {fn : Func} {s : Tmp} {T : TypeId} (h : fn.results = #[.cell s T]) {tmps : Array Value} {w : World} {b : Nat} {C : Array Value} {E : TypeId} (ha : tmps.getD s undef = .pointer (some ⟨b, 0, none⟩)) (hb : Blk w b C E) {d : TypeDesc} (hu : P.underlying T = some d)
    (hd : d.isRow = true) (hi : (P.info? T).map (·.size) = some C.size) : (results fn tmps).run P w = .ok (.agg C) w := by
  have hl := load_blk (P := P) (ty := T) hb 0 C.toList (fun j v hj => by simpa using hj) hu hd (by simpa using hi)
  rw [Array.getD_eq_getD_getElem?] at ha
  simp only [results, h]
  simp [Array.mapM_eq_foldlM, ha, asAddr]
  simp at hl
  rw [hl]

theorem results_ct {fn : Func} {s t : Tmp} {T : TypeId} (h : fn.results = #[.cell s T, .tmp t]) {tmps : Array Value} {w : World} {b : Nat} {C : Array Value} {E : TypeId} (ha : tmps.getD s undef = .pointer (some ⟨b, 0, none⟩)) (hb : Blk w b C E) {d : TypeDesc} (hu : P.underlying T = some d)
    (hd : d.isRow = true) (hi : (P.info? T).map (·.size) = some C.size) : (results fn tmps).run P w = .ok (.tuple #[.agg C, tmps.getD t undef]) w := by
  have hl := load_blk (P := P) (ty := T) hb 0 C.toList (fun j v hj => by simpa using hj) hu hd (by simpa using hi)
  rw [Array.getD_eq_getD_getElem?] at ha
  simp only [results, h]
  simp [Array.mapM_eq_foldlM, ha, asAddr]
  simp at hl
  rw [hl]
  simp

end
#print axioms results_ct
end Go.Proofs.Ytbfeopakmjcapaa
