/-
  What is to be taken back, taken back: nothing is open, and each thread stands as was sure (plain Lean).
-/
import Derived.Test.YtbfeopakmjcapaaErP
import Derived.Test.YtbfeopakmjcapaaEr30
import Derived.Test.YtbfeopakmjcapaaSpL3
set_option linter.unusedVariables false
set_option linter.unusedSimpArgs false
set_option maxHeartbeats 4000000
set_option maxRecDepth 8000
namespace Go.Proofs.Ytbfeopakmjcapaa.Sp
open Go.RowKit Go.Proofs.Ytbfeopakmjcapaa.Seq Go.Proofs.Ytbfeopakmjcapaa.Tso

theorem guesses_nat (s : SM) (j : Nat) : s.guesses (j : Int) = s.op[j]? := by
  unfold SM.guesses
  by_cases h : j < s.op.length
  · rw [if_pos (by omega)]; rfl
  · rw [if_neg (by omega)]; exact (List.getElem?_eq_none (by omega)).symm
theorem th_natq (m : M) (j : Nat) : m.th (j : Int) = m.ths[j]? := by
  unfold M.th
  by_cases h : j < m.ths.length
  · rw [if_pos (by omega)]; rfl
  · rw [if_neg (by omega)]; exact (List.getElem?_eq_none (by omega)).symm
theorem count_nat (s : SM) (j : Nat) : s.count (j : Int) = match s.op[j]? with | none => 0 | some o => o.1.length := by
  unfold SM.count
  rw [guesses_nat]
  cases s.op[j]? <;> rfl
theorem runs_app1 : ∀ (a b : List (Int × Int)) (s : SM), (runs s (a ++ b)).1 = (runs (runs s a).1 b).1
  | [], _, _ => rfl
  | d :: a, b, s => by
    rw [List.cons_append]
    simp only [runs]
    exact runs_app1 a b _
theorem put_other (m : M) {k j : Nat} (u : Th) (h : j ≠ k) : (m.put k u).ths[j]? = m.ths[j]? := by
  unfold M.put
  split
  · rfl
  · split
    · dsimp only
      rw [Int.toNat_natCast, List.getElem?_set_ne (fun e => h e.symm)]
    · rfl
/-- A way back of one thread leaves the others. -/
theorem back_other (s : SM) {k j : Nat} (h : j ≠ k) : (s.doIt 4 k).1.op[j]? = s.op[j]? ∧ (s.doIt 4 k).1.x.ths[j]? = s.x.ths[j]? := by
  cases hg : s.guesses k with
  | none => simp [SM.doIt, hg]
  | some o =>
    have e : s.doIt 4 k = s.back k o := by unfold SM.doIt; rw [hg]; simp
    rw [e]
    unfold SM.back
    split
    · exact ⟨rfl, rfl⟩
    · dsimp only [SM.set]
      refine ⟨?_, put_other _ _ h⟩
      rw [Int.toNat_natCast, List.getElem?_set_ne (fun e => h e.symm)]
theorem backs_other (s : SM) {k j : Nat} (h : j ≠ k) : ∀ c, (backs s k c).op[j]? = s.op[j]? ∧ (backs s k c).x.ths[j]? = s.x.ths[j]?
  | 0 => ⟨rfl, rfl⟩
  | c + 1 => by
    obtain ⟨h1, h2⟩ := backs_other s h c
    obtain ⟨h3, h4⟩ := back_other (backs s k c) h
    exact ⟨h3.trans h1, h4.trans h2⟩
theorem back_true {s : SM} (hs : OkS s) {n : Int} (h : 0 < s.count n) : (s.doIt 4 n).2.2 = true := by
  cases hg : s.guesses n with
  | none => unfold SM.count at h; rw [hg] at h; exact absurd h (by simp)
  | some o =>
    obtain ⟨k, rfl, ho⟩ := guesses_get hg
    obtain ⟨t, ht, _⟩ := hs.thread ho
    rw [doIt_back ho]
    rw [count_eq ho] at h
    exact (back_shape hs ho ht (fun e => by rw [e] at h; exact absurd h (by simp))).1
def bk (d : Int × Int) : Int × Int × Bool := (d.1, d.2, true)
theorem runs_backs {s : SM} (hs : OkS s) (k : Nat) : ∀ c, c ≤ s.count k → runs s (List.replicate c (4, (k : Int))) = (backs s k c, (List.replicate c (4, (k : Int))).map bk)
  | 0, _ => rfl
  | c + 1, h => by
    rw [List.replicate_succ', runs_snoc, runs_backs hs k c (by omega)]
    dsimp only
    have hc := backs_count hs k c
    rw [back_true (backs_ok hs k c) (by omega), decide_eq_true (show 0 < (backs s k c).count k by omega)]
    rw [List.map_append]
    rfl
/-- All of one thread's guesses taken back: it stands as was sure. -/
theorem backs_sure {s : SM} (hs : OkS s) (k : Nat) : (backs s k (s.count k)).count k = 0 ∧ (((backs s k (s.count k)).x.th k).getD noTh).place = (s.sure k).place := by
  have hc := backs_count hs k (s.count k)
  refine ⟨by omega, ?_⟩
  cases ho : s.op[k]? with
  | none =>
    have h0 : s.count k = 0 := by rw [count_nat, ho]
    rw [h0]
    unfold SM.sure
    rw [guesses_nat, ho]
    rfl
  | some o =>
    obtain ⟨l, st⟩ := o
    cases l with
    | nil =>
      have h0 : s.count k = 0 := by rw [count_nat, ho]; rfl
      rw [h0]
      unfold SM.sure
      rw [guesses_nat, ho]
      rfl
    | cons g0 r =>
      obtain ⟨t, ht, hop, _⟩ := hs.thread ho
      have hk := hop.kept 0 g0 rfl
      have hin : InG s k g0 (t.wait.take g0.kept.toNat) s.x.mem s.x.events := ⟨⟨r, st, t, ho, ht, List.take_prefix _ _⟩, by rw [List.length_take]; omega, rfl, rfl⟩
      have hsu := (in_sure hin).1
      rcases backs_in hs hin (s.count k) with h | h
      · have := h.count; omega
      · obtain ⟨st', t', _, a2, a3, _⟩ := h.go
        rw [th_nat a2, hsu]
        exact a3

theorem rest_kind (s : SM) : ∀ n, ∀ d ∈ restD s n, d.1 = 4
  | 0 => fun d hd => (by cases hd)
  | n + 1 => fun d hd => by
    rcases List.mem_append.1 hd with hd | hd
    · exact rest_kind s n d hd
    · rw [(List.mem_replicate.1 hd).2]
theorem rest_all {s : SM} (hs : OkS s) : ∀ n, OkS (runs s (restD s n)).1 ∧ (runs s (restD s n)).2 = (restD s n).map bk ∧
    (∀ j : Nat, j < n → (runs s (restD s n)).1.count j = 0 ∧ (((runs s (restD s n)).1.x.th j).getD noTh).place = (s.sure j).place) ∧
    (∀ j : Nat, n ≤ j → (runs s (restD s n)).1.op[j]? = s.op[j]? ∧ (runs s (restD s n)).1.x.ths[j]? = s.x.ths[j]?)
  | 0 => ⟨hs, rfl, fun j hj => absurd hj (Nat.not_lt_zero _), fun _ _ => ⟨rfl, rfl⟩⟩
  | n + 1 => by
    obtain ⟨h1, h2, h3, h4⟩ := rest_all hs n
    have e1 : restD s (n + 1) = restD s n ++ List.replicate (s.count n) (4, (n : Int)) := rfl
    obtain ⟨q, hq⟩ : ∃ q, q = (runs s (restD s n)).1 := ⟨_, rfl⟩
    have hr1 := runs_app1 (restD s n) (List.replicate (s.count n) (4, (n : Int))) s
    have hr2 := runs_app (restD s n) (List.replicate (s.count n) (4, (n : Int))) s
    rw [← hq] at h1 h3 h4 hr1 hr2
    obtain ⟨g1, g2⟩ := h4 n (Nat.le_refl _)
    have hcn : q.count n = s.count n := by rw [count_nat, count_nat, g1]
    have hsn : (q.sure n).place = (s.sure n).place := by
      unfold SM.sure
      rw [guesses_nat, guesses_nat, th_natq, th_natq, g1, g2]
    have hb := runs_backs h1 n (s.count n) (by omega)
    rw [hb] at hr1 hr2
    obtain ⟨b1, b2⟩ := backs_sure h1 n
    rw [hcn] at b1 b2
    rw [e1, hr1, hr2]
    dsimp only
    refine ⟨backs_ok h1 n _, by rw [h2, List.map_append], fun j hj => ?_, fun j hj => ?_⟩
    · by_cases hjn : j = n
      · subst hjn
        exact ⟨b1, b2.trans hsn⟩
      · obtain ⟨o1, o2⟩ := backs_other q (k := n) hjn (s.count n)
        obtain ⟨p1, p2⟩ := h3 j (by omega)
        refine ⟨?_, ?_⟩
        · rw [count_nat, o1, ← count_nat]; exact p1
        · rw [th_natq, o2, ← th_natq]; exact p2
    · obtain ⟨o1, o2⟩ := backs_other q (k := n) (j := j) (by omega) (s.count n)
      obtain ⟨p1, p2⟩ := h4 j (by omega)
      exact ⟨o1.trans p1, o2.trans p2⟩
theorem rest_step {s : SM} (hs : OkS s) (n i : Nat) (hi : i < (restD s n).length) : ((runs s ((restD s n).take i)).1.doIt (restD s n)[i].1 (restD s n)[i].2).2.2 = true := by
  have h2 := congrArg List.length (rest_all hs n).2.1
  rw [List.length_map] at h2
  generalize restD s n = r at *
  cases hd : ((runs s (r.take i)).1.doIt r[i].1 r[i].2).2.2 with
  | true => rfl
  | false =>
    have e : r = (r.take i ++ [r[i]]) ++ r.drop (i + 1) := by rw [← List.take_succ_eq_append_getElem hi, List.take_append_drop]
    have h3 : (runs s ((r.take i ++ [r[i]]) ++ r.drop (i + 1))).2.length = r.length := by rw [← e]; exact h2
    rw [runs_app, runs_snoc, hd] at h3
    have h4 := runs_len (r.take i) s
    have h5 := runs_len (r.drop (i + 1)) ((runs s (r.take i)).1.doIt r[i].1 r[i].2).1
    simp only [cond_false, List.append_nil, List.length_append, List.length_take, List.length_drop] at h3 h4 h5
    omega
theorem rest_none (s : SM) : ∀ n, (∀ j : Nat, j < n → s.count j = 0) → restD s n = []
  | 0, _ => rfl
  | n + 1, h => by
    rw [restD, rest_none s n (fun j hj => h j (by omega)), h n (by omega)]
    rfl
theorem bare_rest (a : List (Int × Int × Bool)) {r : List (Int × Int)} (h : ∀ d ∈ r, d.1 = 4) : bareD (a ++ r.map bk) = bareD a := by
  unfold bareD
  rw [List.filter_append, show (r.map bk).filter keepD = [] from ?_, List.append_nil]
  rw [List.filter_eq_nil_iff]
  intro x hx
  obtain ⟨d, hd, rfl⟩ := List.mem_map.1 hx
  have h4 := h d hd
  simp [keepD, bk, h4]
theorem th16 {s : SM} (hs : OkS s) (t : Nat) : ((s.x.th t).getD noTh).regs.length = 16 := by
  rw [th_natq]
  cases h : s.x.ths[t]? with
  | none => rfl
  | some T => exact (hs.regs t T h).1
theorem sure16 {s : SM} (hs : OkS s) (t : Nat) : (s.sure t).regs.length = 16 := by
  have h0 := th16 hs t
  unfold SM.sure
  rw [guesses_nat]
  cases ho : s.op[t]? with
  | none => exact h0
  | some o =>
    obtain ⟨l, st⟩ := o
    obtain ⟨T, hT, hop, _⟩ := hs.thread ho
    cases l with
    | nil => exact h0
    | cons g r => exact hop.regs g (by simp)
/-- Where each thread surely stands. -/
def surePl (s : SM) (n : Nat) : List Int := (List.range n).map fun t => (s.sure (t : Nat)).place
theorem surePl_len (s : SM) (n : Nat) : (surePl s n).length = n := by simp [surePl]
theorem surePl_succ (s : SM) (n : Nat) : surePl s (n + 1) = surePl s n ++ [(s.sure (n : Nat)).place] := by simp [surePl, List.range_succ]
theorem surePl_get (s : SM) {n t : Nat} (h : t < n) : (surePl s n).getD t 0 = (s.sure (t : Nat)).place := by simp [surePl, List.getD_eq_getElem?_getD, h]
/-- A script, with what is to be taken back behind it. -/
theorem rest_runs {s0 : SM} {l : List (Int × Int)} {n : Nat} (hs : OkS (runs s0 l).1) : (runs s0 (l ++ restD (runs s0 l).1 n)).2 = (runs s0 l).2 ++ (restD (runs s0 l).1 n).map bk := by
  rw [runs_app, (rest_all hs n).2.1]
end Go.Proofs.Ytbfeopakmjcapaa.Sp
