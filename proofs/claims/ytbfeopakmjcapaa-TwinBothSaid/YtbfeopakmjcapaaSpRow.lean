/-
  How a law stands that plays with a machine that guesses: the machine, the law's own blocks, all else as it was; what is done, as cells.
-/
import Derived.Test.YtbfeopakmjcapaaSpD
import Derived.Test.YtbfeopakmjcapaaSpN
import Derived.Test.YtbfeopakmjcapaaSpV
import Derived.Test.YtbfeopakmjcapaaSpL3
set_option linter.unusedVariables false
set_option linter.unusedSimpArgs false
set_option maxHeartbeats 4000000
set_option maxRecDepth 8000
namespace Go.Proofs.Ytbfeopakmjcapaa.Sp
open Go.RowKit Go.Proofs.Ytbfeopakmjcapaa.Seq Go.Proofs.Ytbfeopakmjcapaa.Tso

structure Sts (w0 w : World) (R : Nat → Prop) (SB : Nat) (s : SM) (L : List (Nat × Array Value × TypeId)) : Prop where
  sr : SR w R SB s
  keep : Keep w R L
  fr0 : Fr (fun _ => False) w0 w
  up : ∀ z, R z → w0.heap.size ≤ z
namespace Sts
variable {w0 w w1 : World} {R R1 : Nat → Prop} {SB : Nat} {s s1 : SM} {L : List (Nat × Array Value × TypeId)}
theorem fr (h : Sts w0 w R SB s L) (hf : Fr (fun _ => False) w w1) : Sts w0 w1 R SB s L :=
  ⟨h.sr.fr hf (fun _ _ h => h), fun e he => ⟨(h.keep e he).1.fr hf (fun h => h), (h.keep e he).2⟩, h.fr0.trans hf (fun _ _ h => h), h.up⟩
theorem mv (h : Sts w0 w R SB s L) (hm : SR w1 R1 SB s1) (hv : Mv R R1 w w1) : Sts w0 w1 R1 SB s1 L :=
  ⟨hm, fun e he => by
    obtain ⟨h1, h2⟩ := h.keep e he
    have hl := h1.lt
    exact ⟨h1.fr hv.2.2 h2, fun hr => by
      rcases hv.2.1 _ hr with h' | h'
      · exact h2 h'
      · omega⟩, h.fr0.trans hv.2.2 (fun z hz hr => by have := h.up z hr; omega), fun z hz => by
    rcases hv.2.1 z hz with h' | h'
    · exact h.up z h'
    · have := h.fr0.size; omega⟩
theorem new (h : Sts w0 w R SB s L) (hf : Fr (fun _ => False) w w1) {b : Nat} {C : Array Value} {T : TypeId} (hb : Blk w1 b C T) (hn : w.heap.size ≤ b) : Sts w0 w1 R SB s ((b, C, T) :: L) :=
  ⟨(h.fr hf).sr, fun e he => by
    rcases List.mem_cons.1 he with rfl | he
    · exact ⟨hb, fun hr => by have := h.sr.lt _ hr; dsimp only at this; omega⟩
    · exact (h.fr hf).keep e he, (h.fr hf).fr0, h.up⟩
theorem get (h : Sts w0 w R SB s L) {b : Nat} {C : Array Value} {T : TypeId} (he : (b, C, T) ∈ L) : Blk w b C T := (h.keep _ he).1
theorem add {L2 : List (Nat × Array Value × TypeId)} (h : Sts w0 w R SB s L) (h2 : ∀ e ∈ L2, Blk w e.1 e.2.1 e.2.2 ∧ ¬ R e.1) : Sts w0 w R SB s (L2 ++ L) :=
  ⟨h.sr, fun e he => (List.mem_append.1 he).elim (h2 e) (h.keep e), h.fr0, h.up⟩
/-- Fewer blocks are kept in mind. -/
theorem less {L2 : List (Nat × Array Value × TypeId)} (h : Sts w0 w R SB s L) (h2 : ∀ e ∈ L2, e ∈ L) : Sts w0 w R SB s L2 :=
  ⟨h.sr, fun e he => h.keep e (h2 e he), h.fr0, h.up⟩
end Sts

theorem start_fits {codes : List (List Ins)} {words locks room : Nat} {mem : List Int} {window : Int} (h : ∀ c ∈ codes, ∀ i ∈ c, insOk c.length locks i) (hr : room ≤ 1000) (hw : 1 ≤ window ∧ window ≤ 64) (hm : words ≤ 100000) : Fits (startS codes words mem locks room window) 0 := by
  refine ⟨⟨start_good h, by simp [startS, Tso.start], ?_, ?_, hw, hr⟩, ?_, Nat.le_refl _⟩
  · intro i o t ho ht
    unfold startS at ho
    simp only [List.getElem?_replicate] at ho
    split at ho
    · obtain rfl := Option.some.inj ho
      refine ⟨fun g hg => (by cases hg), fun i g hg => (by simp at hg), fun i j g h _ hg => (by simp at hg), fun i g hg => (by simp at hg), ?_⟩
      show (([] : List Gs).length : Int) ≤ 0 ∧ (0 : Int) ≤ window
      simp; omega
    · cases ho
  · intro i t ht
    unfold startS Tso.start at ht
    simp only [List.getElem?_map, Option.map_eq_some_iff] at ht
    obtain ⟨c, _, rfl⟩ := ht
    exact ⟨by simp [newTh], Nat.zero_le _⟩
  · show (memInit words mem).length ≤ _
    rw [memInit_length]; exact hm

/-- What is done, as cells. -/
def dosC (l : List (Int × Int)) : List Value := l.flatMap fun a => [.int .i64 a.1, .int .i64 a.2]
theorem dosC_length (l : List (Int × Int)) : (dosC l).length = l.length * 2 := by
  unfold dosC
  induction l with
  | nil => rfl
  | cons a l ih => simp only [List.flatMap_cons, List.length_append, List.length_cons, List.length_nil, ih]; omega
theorem dosC_get (l : List (Int × Int)) (k : Nat) (h : k < l.length) : (dosC l)[k * 2]? = some (.int .i64 l[k].1) ∧ (dosC l)[k * 2 + 1]? = some (.int .i64 l[k].2) := by
  induction l generalizing k with
  | nil => simp at h
  | cons a l ih =>
    cases k with
    | zero => exact ⟨rfl, rfl⟩
    | succ k =>
      have h2 : k < l.length := by simpa using h
      obtain ⟨a1, a2⟩ := ih k h2
      have e : (k + 1) * 2 = k * 2 + 2 := by omega
      refine ⟨?_, ?_⟩
      · rw [e]; show (dosC l)[k * 2]? = _; rw [a1]; rfl
      · rw [e]; show (dosC l)[k * 2 + 1]? = _; rw [a2]; rfl
theorem evC_get (l : List Ev) (k : Nat) (h : k < l.length) : (evC l)[k * 3]? = some (.int .i64 l[k].kind) ∧ (evC l)[k * 3 + 1]? = some (.int .i64 l[k].thread) ∧ (evC l)[k * 3 + 2]? = some (.int .i64 l[k].n) := by
  induction l generalizing k with
  | nil => simp at h
  | cons a l ih =>
    cases k with
    | zero => exact ⟨rfl, rfl, rfl⟩
    | succ k =>
      have h2 : k < l.length := by simpa using h
      obtain ⟨a1, a2, a3⟩ := ih k h2
      have e : (k + 1) * 3 = k * 3 + 3 := by omega
      refine ⟨?_, ?_, ?_⟩
      · rw [e]; show (evC l)[k * 3]? = _; rw [a1]; rfl
      · rw [e]; show (evC l)[k * 3 + 1]? = _; rw [a2]; rfl
      · rw [e]; show (evC l)[k * 3 + 2]? = _; rw [a3]; rfl
theorem evC_len (l : List Ev) : (evC l).length = l.length * 3 := by
  unfold evC
  induction l with
  | nil => rfl
  | cons a l ih => simp only [List.flatMap_cons, List.length_append, List.length_cons, List.length_nil, ih]; omega
end Go.Proofs.Ytbfeopakmjcapaa.Sp

/-
  A law's own row beside a machine that guesses.
-/
namespace Go.Proofs.Ytbfeopakmjcapaa.Sp
open Go.RowKit Go.Proofs.Ytbfeopakmjcapaa.Seq Go.Proofs.Ytbfeopakmjcapaa.Tso

/-- A row of the law's own, apart from the machine (R), and newer than w0. -/
def RowS (w0 w : World) (R : Nat → Prop) (E : TypeId) (sz : Nat) (v : Value) (n : Nat) (cs : List Value) : Prop :=
  ∃ (Q : Nat → Prop) (a : Option Addr) (c : Nat), v = .slice a n c ∧ OwnAt w E sz Q a n c cs ∧ ∀ z, Q z → ¬ R z ∧ w0.heap.size ≤ z ∧ z < w.heap.size
namespace RowS
variable {w0 w w1 : World} {R R1 : Nat → Prop} {E : TypeId} {sz n : Nat} {v : Value} {cs : List Value}
theorem nil (w0 w : World) (R : Nat → Prop) (E : TypeId) (sz : Nat) : RowS w0 w R E sz (.slice none 0 0) 0 [] := ⟨fun _ => False, none, 0, rfl, OwnAt.nil _ _ _ _ _, fun _ h => h.elim⟩
theorem fr (h : RowS w0 w R E sz v n cs) (hf : Fr (fun _ => False) w w1) : RowS w0 w1 R E sz v n cs := by
  obtain ⟨Q, a, c, h1, h2, h3⟩ := h
  exact ⟨Q, a, c, h1, h2.fr hf (fun _ _ h => h), fun z hz => ⟨(h3 z hz).1, (h3 z hz).2.1, Nat.lt_of_lt_of_le (h3 z hz).2.2 hf.size⟩⟩
theorem mv (h : RowS w0 w R E sz v n cs) (hv : Mv R R1 w w1) : RowS w0 w1 R1 E sz v n cs := by
  obtain ⟨Q, a, c, h1, h2, h3⟩ := h
  refine ⟨Q, a, c, h1, h2.fr hv.2.2 (fun z hz => (h3 z hz).1), fun z hz => ⟨fun hr => ?_, (h3 z hz).2.1, Nat.lt_of_lt_of_le (h3 z hz).2.2 hv.2.2.size⟩⟩
  rcases hv.2.1 z hr with h' | h'
  · exact (h3 z hz).1 h'
  · have := (h3 z hz).2.2; omega
theorem shrink {m : Nat} (h : RowS w0 w R E sz v n cs) (hm : m ≤ n) : ∃ a c, v = .slice a n c ∧ RowS w0 w R E sz (.slice a m c) m (cs.take (m * sz)) := by
  obtain ⟨Q, a, c, h1, h2, h3⟩ := h
  exact ⟨a, c, h1, Q, a, c, rfl, h2.shrink hm, h3⟩
/-- Behind an append. -/
theorem grown {Q : Nat → Prop} {a : Option Addr} {c : Nat} (hR : ∀ z, R z → z < w.heap.size) (hf0 : Fr (fun _ => False) w0 w) (ho : OwnAt w1 E sz (fun k => Q k ∨ w.heap.size ≤ k) a n c cs) (_hf : Fr Q w w1) (hQ : ∀ z, Q z → ¬ R z ∧ w0.heap.size ≤ z ∧ z < w.heap.size) : RowS w0 w1 R E sz (.slice a n c) n cs := by
  refine ⟨fun z => (Q z ∨ w.heap.size ≤ z) ∧ z < w1.heap.size, a, c, rfl, ho.mono (fun z hz h => ⟨h, hz⟩), fun z hz => ?_⟩
  rcases hz.1 with h | h
  · exact ⟨(hQ z h).1, (hQ z h).2.1, hz.2⟩
  · exact ⟨fun hr => by have := hR z hr; omega, Nat.le_trans hf0.size h, hz.2⟩
end RowS
/-- The law's own row has changed. -/
theorem Sts.own {w0 w w1 : World} {R Q : Nat → Prop} {SB : Nat} {s : SM} {L : List (Nat × Array Value × TypeId)} (h : Sts w0 w R SB s L) (hf : Fr Q w w1) (hQ : ∀ z, Q z → ¬ R z ∧ w0.heap.size ≤ z) (hL : ∀ e ∈ L, ¬ Q e.1) : Sts w0 w1 R SB s L :=
  ⟨h.sr.fr hf (fun z hz hq => (hQ z hq).1 hz), fun e he => ⟨(h.keep e he).1.fr hf (hL e he), (h.keep e he).2⟩, h.fr0.trans hf (fun z hz hq => by have := (hQ z hq).2; omega), h.up⟩
theorem RowS.toL {w0 w : World} {R : Nat → Prop} {E : TypeId} {sz n : Nat} {v : Value} {cs : List Value} (h : RowS w0 w R E sz v n cs) :
    ∃ (L : List (Nat × Array Value × TypeId)) (a : Option Addr) (c : Nat), v = .slice a n c ∧ (∀ e ∈ L, Blk w e.1 e.2.1 e.2.2 ∧ ¬ R e.1) ∧ (∀ e ∈ L, w0.heap.size ≤ e.1) ∧ ∀ w', (∀ e ∈ L, Blk w' e.1 e.2.1 e.2.2) → OwnAt w' E sz (fun k => ∃ e ∈ L, k = e.1) a n c cs := by
  obtain ⟨Q, a, c, h1, h2, h3⟩ := h
  obtain ⟨L, h4, h5⟩ := own_row h2
  exact ⟨L, a, c, h1, fun e he => ⟨(h4 e he).1, (h3 _ (h4 e he).2).1⟩, fun e he => (h3 _ (h4 e he).2).2.1, h5⟩
theorem RowS.ofL {w0 w : World} {R : Nat → Prop} {SB : Nat} {s : SM} {E : TypeId} {sz n c : Nat} {a : Option Addr} {cs : List Value} {L L' : List (Nat × Array Value × TypeId)} (h : Sts w0 w R SB s L') (hs : ∀ e ∈ L, e ∈ L') (h0 : ∀ e ∈ L, w0.heap.size ≤ e.1)
    (ho : ∀ w', (∀ e ∈ L, Blk w' e.1 e.2.1 e.2.2) → OwnAt w' E sz (fun k => ∃ e ∈ L, k = e.1) a n c cs) : RowS w0 w R E sz (.slice a n c) n cs :=
  ⟨_, a, c, rfl, ho w (fun e he => (h.keep e (hs e he)).1), fun z hz => by
    obtain ⟨e, he, rfl⟩ := hz
    exact ⟨(h.keep e (hs e he)).2, h0 e he, (h.keep e (hs e he)).1.lt⟩⟩
theorem dos_of_rows (rows : List (List Int)) (h : ∀ r ∈ rows, r.length = 2) : dosC (rows.map tup2) = ints rows.flatten := by
  induction rows with
  | nil => rfl
  | cons r rows ih =>
    have h1 := h r (by simp)
    match r, h1 with
    | [a, b], _ =>
      have := ih (fun r hr => h r (by simp [hr]))
      simp [ints, dosC, tup2] at this ⊢
      exact this
/-- The place of a thread's value. -/
theorem field_place (T : Th) (ta : Option Addr) (tc : Nat) (h : T.regs.length = 16) (w : World) : Sem.run Try.prog (Instr.field 45 (.agg (standV T ta tc).toArray) 0) w = .ok (.int .i64 T.place) w := by
  obtain ⟨code, place, regs, wait, over⟩ := T
  obtain ⟨r0, r1, r2, r3, r4, r5, r6, r7, r8, r9, r10, r11, r12, r13, r14, r15, rfl⟩ := list16 regs h
  kernel_rfl
end Go.Proofs.Ytbfeopakmjcapaa.Sp
