/-
  How a *spec.Machine lies in memory, and what a change of one thread's part leaves.
-/
import Derived.Test.YtbfeopakmjcapaaSpL3
set_option linter.unusedVariables false
set_option linter.unusedSimpArgs false
set_option maxHeartbeats 4000000
set_option maxRecDepth 8000
namespace Go.Proofs.Ytbfeopakmjcapaa.Sp
open Go.RowKit Go.Proofs.Ytbfeopakmjcapaa.Seq Go.Proofs.Ytbfeopakmjcapaa.Tso

/-- A guess, cell by cell; v: where the waiting stores of then lie. -/
def gC (p : Gs × Value) : List Value := .int .i64 p.1.place :: (ints p.1.regs ++ [p.2, .bool p.1.over, .int .i64 p.1.kept, .int .i64 p.1.steps])
def gsC (l : List (Gs × Value)) : List Value := l.flatMap gC
theorem gC_length {p : Gs × Value} (h : p.1.regs.length = 16) : (gC p).length = 21 := by simp [gC, ints_length, h]
theorem gsC_length {l : List (Gs × Value)} (h : ∀ p ∈ l, p.1.regs.length = 16) : (gsC l).length = l.length * 21 := by
  induction l with
  | nil => rfl
  | cons p l ih =>
    have h1 := gC_length (h p (by simp))
    have h2 := ih (fun q hq => h q (by simp [hq]))
    simp only [gsC, List.flatMap_cons, List.length_append, List.length_cons] at h2 ⊢
    omega
theorem gsC_append (l r : List (Gs × Value)) : gsC (l ++ r) = gsC l ++ gsC r := by simp [gsC]
theorem gsC_one {l : List (Gs × Value)} (h : ∀ p ∈ l, p.2.oneCell' = true) : ∀ u ∈ gsC l, u.oneCell' = true := by
  intro u hu
  simp only [gsC, List.mem_flatMap] at hu
  obtain ⟨p, hp, hu⟩ := hu
  simp only [gC, List.mem_cons, List.mem_append, List.not_mem_nil, or_false] at hu
  rcases hu with rfl | hu | rfl | rfl | rfl | rfl
  · rfl
  · exact ints_one _ u hu
  · exact h p hp
  · rfl
  · rfl
  · rfl
/-- A cell of a guess. -/
theorem gsC_get {l : List (Gs × Value)} (h : ∀ p ∈ l, p.1.regs.length = 16) {i : Nat} {p : Gs × Value} (hp : l[i]? = some p) {j : Nat} {u : Value} (hj : (gC p)[j]? = some u) : (gsC l)[i * 21 + j]? = some u := by
  induction l generalizing i with
  | nil => simp at hp
  | cons q l ih =>
    have hq := gC_length (h q (by simp))
    cases i with
    | zero =>
      obtain rfl : q = p := by simpa using hp
      have hlt := (List.getElem?_eq_some_iff.1 hj).1
      simp only [gsC, List.flatMap_cons, Nat.zero_mul, Nat.zero_add]
      rw [List.getElem?_append_left hlt]
      exact hj
    | succ i =>
      have := ih (fun q hq => h q (by simp [hq])) (i := i) (by simpa using hp)
      simp only [gsC, List.flatMap_cons] at this ⊢
      rw [List.getElem?_append_right (by omega), hq, show (i + 1) * 21 + j - 21 = i * 21 + j by omega]
      exact this
theorem gC_kept {p : Gs × Value} (h : p.1.regs.length = 16) : (gC p)[19]? = some (.int .i64 p.1.kept) := by
  simp only [gC, List.getElem?_cons_succ]
  rw [List.getElem?_append_right (by simp [ints_length, h])]
  simp [ints_length, h]
theorem gC_steps {p : Gs × Value} (h : p.1.regs.length = 16) : (gC p)[20]? = some (.int .i64 p.1.steps) := by
  simp only [gC, List.getElem?_cons_succ]
  rw [List.getElem?_append_right (by simp [ints_length, h])]
  simp [ints_length, h]
theorem gC_regs {p : Gs × Value} : ∀ j u, (ints p.1.regs)[j]? = some u → (gC p)[1 + j]? = some u := by
  intro j u h
  have hj := (List.getElem?_eq_some_iff.1 h).1
  rw [Nat.add_comm, gC, List.getElem?_cons_succ, List.getElem?_append_left hj]
  exact h

/-- The parts of a machine that guesses; all in R. -/
structure SRep (w : World) (SB B OB oc : Nat) (ids : List (Nat × Nat)) (D : Array Value) (A : Nat → Option Addr) (C : Nat → Nat) (V : Nat → List (Gs × Value)) (G : Nat → Nat → Prop) (Rm R : Nat → Prop) (s : SM) : Prop where
  head : Blk w SB #[.pointer (some ⟨B, 0, none⟩), .slice (some ⟨OB, 0, none⟩) s.op.length oc, .int .i64 s.window] 78
  opens : Blk w OB D 88
  size : D.size = s.op.length * 2
  cells : ∀ (i : Nat) (o : Op), s.op[i]? = some o → D[i * 2]? = some (.slice (A i) o.1.length (C i)) ∧ D[i * 2 + 1]? = some (.int .i64 o.2)
  vals : ∀ (i : Nat) (o : Op), s.op[i]? = some o → (V i).map (·.1) = o.1 ∧ (∀ p ∈ V i, p.2.oneCell' = true ∧ p.1.regs.length = 16) ∧ OwnAt w 91 21 (G i) (A i) o.1.length (C i) (gsC (V i))
  mr : MR w Rm B ids s.x
  inS : R SB ∧ R OB
  inG : ∀ i k, G i k → R k
  inM : ∀ k, Rm k → R k
  notS : ¬ Rm SB ∧ ¬ Rm OB
  notG : ∀ i k, G i k → ¬ Rm k
  offG : ∀ i k, G i k → k ≠ SB ∧ k ≠ OB
  two : SB ≠ OB
  dis : ∀ i j k, G i k → G j k → i = j
  lt : ∀ k, R k → k < w.heap.size

def SR (w : World) (R : Nat → Prop) (SB : Nat) (s : SM) : Prop := ∃ B OB oc ids D A C V G Rm, SRep w SB B OB oc ids D A C V G Rm R s

theorem SRep.fr {w w1 : World} {SB B OB oc : Nat} {ids : List (Nat × Nat)} {D : Array Value} {A : Nat → Option Addr} {C : Nat → Nat} {V : Nat → List (Gs × Value)} {G : Nat → Nat → Prop} {Rm R S : Nat → Prop} {s : SM} (h : SRep w SB B OB oc ids D A C V G Rm R s) (hf : Fr S w w1) (hn : ∀ k, R k → ¬ S k) :
    SRep w1 SB B OB oc ids D A C V G Rm R s :=
  ⟨h.head.fr hf (hn _ h.inS.1), h.opens.fr hf (hn _ h.inS.2), h.size, h.cells, fun i o ho => ⟨(h.vals i o ho).1, (h.vals i o ho).2.1, (h.vals i o ho).2.2.fr hf (fun k hk => hn k (h.inG i k hk))⟩,
    h.mr.fr hf (fun k hk => hn k (h.inM k hk)), h.inS, h.inG, h.inM, h.notS, h.notG, h.offG, h.two, h.dis, fun k hk => Nat.lt_of_lt_of_le (h.lt k hk) hf.size⟩
theorem SR.fr {w w1 : World} {R S : Nat → Prop} {SB : Nat} {s : SM} (h : SR w R SB s) (hf : Fr S w w1) (hn : ∀ k, R k → ¬ S k) : SR w1 R SB s := by
  obtain ⟨B, OB, oc, ids, D, A, C, V, G, Rm, h⟩ := h
  exact ⟨B, OB, oc, ids, D, A, C, V, G, Rm, h.fr hf hn⟩
theorem SR.lt {w : World} {R : Nat → Prop} {SB : Nat} {s : SM} (h : SR w R SB s) : ∀ k, R k → k < w.heap.size := by
  obtain ⟨B, OB, oc, ids, D, A, C, V, G, Rm, h⟩ := h
  exact h.lt

section
variable {w w1 : World} {SB B OB oc : Nat} {ids : List (Nat × Nat)} {D : Array Value} {A : Nat → Option Addr} {C : Nat → Nat} {V : Nat → List (Gs × Value)} {G : Nat → Nat → Prop} {Rm R : Nat → Prop} {s : SM}

/-- One thread's guesses have changed, and the machine beneath. -/
theorem SRep.upd (h : SRep w SB B OB oc ids D A C V G Rm R s) {n : Nat} {o : Op} (hn : s.op[n]? = some o) (hf : Fr (fun k => k = OB ∨ G n k ∨ Rm k) w w1) {D' : Array Value} {a' : Option Addr} {c' : Nat} {vs : List (Gs × Value)} {Gn Rm' : Nat → Prop} {x' : M} {st : Int}
    (hob : Blk w1 OB D' 88) (hsz : D'.size = D.size) (hD : D'[n * 2]? = some (.slice a' vs.length c') ∧ D'[n * 2 + 1]? = some (.int .i64 st)) (hDo : ∀ j, j ≠ n * 2 → j ≠ n * 2 + 1 → D'[j]? = D[j]?)
    (hvs : ∀ p ∈ vs, p.2.oneCell' = true ∧ p.1.regs.length = 16) (hrow : OwnAt w1 91 21 Gn a' vs.length c' (gsC vs)) (hmr : MR w1 Rm' B ids x')
    (hG : ∀ k, Gn k → (G n k ∨ w.heap.size ≤ k) ∧ k < w1.heap.size) (hR : ∀ k, Rm' k → Rm k ∨ w.heap.size ≤ k) (hdis : ∀ k, Gn k → ¬ Rm' k) :
    SRep w1 SB B OB oc ids D' (fun i => if i = n then a' else A i) (fun i => if i = n then c' else C i) (fun i => if i = n then vs else V i) (fun i => if i = n then Gn else G i) Rm' (fun k => R k ∨ Gn k ∨ Rm' k) { s with op := s.op.set n (vs.map (·.1), st), x := x' } := by
  have hlt : n < s.op.length := (List.getElem?_eq_some_iff.1 hn).1
  have hsb := h.lt _ h.inS.1
  have hobl := h.lt _ h.inS.2
  refine ⟨?_, hob, by simp [hsz, h.size], ?_, ?_, hmr, ⟨.inl h.inS.1, .inl h.inS.2⟩, ?_, fun k hk => .inr (.inr hk), ?_, ?_, ?_, h.two, ?_, ?_⟩
  · have := h.head.fr hf (fun e => by
      rcases e with e | e | e
      · exact h.two e
      · exact (h.offG n _ e).1 rfl
      · exact h.notS.1 e)
    simpa using this
  · intro i o1 ho1
    by_cases hi : i = n
    · subst hi
      simp only [List.getElem?_set, if_true, hlt] at ho1
      obtain rfl := Option.some.inj ho1
      simpa using hD
    · rw [List.getElem?_set_ne (fun e => hi e.symm)] at ho1
      have := h.cells i o1 ho1
      simp only [if_neg hi]
      rw [hDo _ (by omega) (by omega), hDo _ (by omega) (by omega)]
      exact this
  · intro i o1 ho1
    by_cases hi : i = n
    · subst hi
      simp only [List.getElem?_set, if_true, hlt] at ho1
      obtain rfl := Option.some.inj ho1
      simp only [if_true, List.length_map]
      exact ⟨trivial, hvs, hrow⟩
    · rw [List.getElem?_set_ne (fun e => hi e.symm)] at ho1
      simp only [if_neg hi]
      obtain ⟨h1, h2, h3⟩ := h.vals i o1 ho1
      refine ⟨h1, h2, h3.fr hf (fun k hk e => ?_)⟩
      rcases e with e | e | e
      · exact (h.offG i k hk).2 e
      · exact hi (h.dis _ _ _ hk e)
      · exact h.notG i k hk e
  · intro i k hk
    split at hk
    · exact .inr (.inl hk)
    · exact .inl (h.inG i k hk)
  · refine ⟨fun e => ?_, fun e => ?_⟩
    · rcases hR _ e with h' | h'
      · exact h.notS.1 h'
      · omega
    · rcases hR _ e with h' | h'
      · exact h.notS.2 h'
      · omega
  · intro i k hk hm
    split at hk
    · exact hdis k hk hm
    · rcases hR _ hm with h' | h'
      · exact h.notG i k hk h'
      · have := h.lt k (h.inG i k hk); omega
  · intro i k hk
    split at hk
    · rcases (hG k hk).1 with h' | h'
      · exact h.offG n k h'
      · omega
    · exact h.offG i k hk
  · intro i j k hi hj
    split at hi <;> split at hj
    · omega
    · rcases (hG k hi).1 with h' | h'
      · have := h.dis _ _ _ h' hj; omega
      · have := h.lt k (h.inG j k hj); omega
    · rcases (hG k hj).1 with h' | h'
      · have := h.dis _ _ _ h' hi; omega
      · have := h.lt k (h.inG i k hi); omega
    · exact h.dis _ _ _ hi hj
  · intro k hk
    rcases hk with hk | hk | hk
    · exact Nat.lt_of_lt_of_le (h.lt k hk) hf.size
    · exact (hG k hk).2
    · exact hmr.lt k hk

/-- The machine beneath has changed, alone. -/
theorem SRep.updX (h : SRep w SB B OB oc ids D A C V G Rm R s) {Rm' : Nat → Prop} {x' : M} (hmr : MR w1 Rm' B ids x') (hv : Mv Rm Rm' w w1) :
    SRep w1 SB B OB oc ids D A C V G Rm' (fun k => R k ∨ Rm' k) { s with x := x' } := by
  have hf := hv.2.2
  have hsb := h.lt _ h.inS.1
  have hobl := h.lt _ h.inS.2
  refine ⟨h.head.fr hf h.notS.1, h.opens.fr hf h.notS.2, h.size, h.cells, fun i o ho => ⟨(h.vals i o ho).1, (h.vals i o ho).2.1, (h.vals i o ho).2.2.fr hf (h.notG i)⟩, hmr, ⟨.inl h.inS.1, .inl h.inS.2⟩, fun i k hk => .inl (h.inG i k hk), fun k hk => .inr hk, ?_, ?_, h.offG, h.two, h.dis, ?_⟩
  · refine ⟨fun e => ?_, fun e => ?_⟩
    · rcases hv.2.1 _ e with h' | h'
      · exact h.notS.1 h'
      · omega
    · rcases hv.2.1 _ e with h' | h'
      · exact h.notS.2 h'
      · omega
  · intro i k hk e
    rcases hv.2.1 _ e with h' | h'
    · exact h.notG i k hk h'
    · have := h.lt k (h.inG i k hk); omega
  · intro k hk
    rcases hk with hk | hk
    · exact Nat.lt_of_lt_of_le (h.lt k hk) hf.size
    · exact hmr.lt k hk
theorem mv_or {R Rm Rm' : Nat → Prop} (hm : ∀ k, Rm k → R k) (hv : Mv Rm Rm' w w1) : Mv R (fun k => R k ∨ Rm' k) w w1 :=
  ⟨fun k hk => .inl hk, fun k hk => hk.elim .inl (fun h => (hv.2.1 k h).imp (hm k) id), hv.2.2.mono (fun k _ h => hm k h)⟩
end

/-- The end of a call in which the machine beneath has changed, and the call's own result's block. -/
theorem fin_x {w w3 w9 : World} {SB B OB oc : Nat} {ids : List (Nat × Nat)} {D : Array Value} {A : Nat → Option Addr} {C : Nat → Nat} {V : Nat → List (Gs × Value)} {G : Nat → Nat → Prop} {Rm Rm' R S : Nat → Prop} {s : SM} (h : SRep w SB B OB oc ids D A C V G Rm R s) {x' : M} (hm : MR w3 Rm' B ids x') (hv : Mv Rm Rm' w w3)
    (hf : Fr S w3 w9) (hS : ∀ z, S z → w.heap.size ≤ z ∧ ¬ Rm' z) : ∃ R', SR w9 R' SB { s with x := x' } ∧ Mv R R' w w9 := by
  have hv' : Mv Rm Rm' w w9 := ⟨hv.1, hv.2.1, hv.2.2.trans hf (fun z hz e => by have := (hS z e).1; omega)⟩
  exact ⟨_, ⟨B, OB, oc, ids, D, A, C, V, G, Rm', h.updX (hm.fr hf (fun z hz e => (hS z e).2 hz)) hv'⟩, mv_or h.inM hv'⟩

/-- The end of a call in which a thread's steps have changed too. -/
theorem fin_s {w w3 w9 : World} {SB B OB oc : Nat} {ids : List (Nat × Nat)} {D : Array Value} {A : Nat → Option Addr} {C : Nat → Nat} {V : Nat → List (Gs × Value)} {G : Nat → Nat → Prop} {Rm Rm' R S : Nat → Prop} {s : SM} (h : SRep w SB B OB oc ids D A C V G Rm R s) {x' : M} (hm : MR w3 Rm' B ids x') (hv : Mv Rm Rm' w w3)
    {k : Nat} {o : Op} (ho : s.op[k]? = some o) (hf : Fr S w3 w9) (hS : ∀ z, S z → (w.heap.size ≤ z ∨ z = OB) ∧ ¬ Rm' z) (v : Int) (hb : Blk w9 OB (D.setIfInBounds (k * 2 + 1) (.int .i64 v)) 88) :
    ∃ R', SR w9 R' SB (s.set k (o.1, v) x') ∧ Mv R R' w w9 := by
  have hk := (List.getElem?_eq_some_iff.1 ho).1
  obtain ⟨v1, v2, v3⟩ := h.vals k o ho
  have hc := h.cells k o ho
  have hlen : (V k).length = o.1.length := by rw [← v1]; simp
  have hf9 : Fr (fun z => z = OB ∨ G k z ∨ Rm z) w w9 := (hv.2.2.mono (fun z _ h => .inr (.inr h))).trans hf (fun z hz e => by
    rcases (hS z e).1 with h' | h'
    · omega
    · exact .inl h')
  have hR : ∀ z, Rm' z → Rm z ∨ w.heap.size ≤ z := hv.2.1
  have hrow : OwnAt w9 91 21 (G k) (A k) (V k).length (C k) (gsC (V k)) := by
    rw [hlen]
    have hfr : Fr (fun z => Rm z ∨ z = OB) w w9 := (hv.2.2.mono (fun z _ h => .inl h)).trans hf (fun z hz e => by
      rcases (hS z e).1 with h' | h'
      · omega
      · exact .inr h')
    exact v3.fr hfr (fun z hz e => by
      rcases e with e | e
      · exact h.notG k z hz e
      · exact (h.offG k z hz).2 e)
  have hu := h.upd ho hf9 (a' := A k) (c' := C k) (vs := V k) (Gn := G k) (Rm' := Rm') (x' := x') (st := v) hb (by simp) ⟨by rw [Array.getElem?_setIfInBounds_ne (by omega), hlen]; exact hc.1, by rw [Array.getElem?_setIfInBounds_self_of_lt (by rw [h.size]; omega)]⟩
    (fun j h1 h2 => by rw [Array.getElem?_setIfInBounds_ne (by omega)]) v2 hrow (hm.fr hf (fun z hz e => (hS z e).2 hz)) (fun z hz => ⟨.inl hz, Nat.lt_of_lt_of_le (h.lt z (h.inG k z hz)) hf9.size⟩) hR
    (fun z hz hm => by
      rcases hR z hm with h' | h'
      · exact h.notG k z hz h'
      · have := h.lt z (h.inG k z hz); omega)
  rw [v1] at hu
  refine ⟨_, ⟨B, OB, oc, ids, _, _, _, _, _, _, hu⟩, fun z hz => .inl hz, fun z hz => ?_, ?_⟩
  · rcases hz with hz | hz | hz
    · exact .inl hz
    · exact .inl (h.inG k z hz)
    · exact (hR z hz).imp (h.inM z) id
  · refine hf9.mono (fun z _ hz => ?_)
    rcases hz with rfl | hz | hz
    · exact h.inS.2
    · exact h.inG k z hz
    · exact h.inM z hz

/-- The end of a call in which a thread's guesses have changed. -/
theorem fin_u {w w3 w9 : World} {SB B OB oc : Nat} {ids : List (Nat × Nat)} {D : Array Value} {A : Nat → Option Addr} {C : Nat → Nat} {V : Nat → List (Gs × Value)} {G : Nat → Nat → Prop} {Rm Rm' R S : Nat → Prop} {s : SM} (h : SRep w SB B OB oc ids D A C V G Rm R s) {x' : M} (hm : MR w3 Rm' B ids x') (hv : Mv Rm Rm' w w3)
    {k : Nat} {o : Op} (ho : s.op[k]? = some o) (hf : Fr S w3 w9) (hS : ∀ z, S z → (w.heap.size ≤ z ∨ z = OB ∨ G k z) ∧ ¬ Rm' z) {D' : Array Value} {a' : Option Addr} {c' : Nat} {vs : List (Gs × Value)} {Gn : Nat → Prop} {st : Int}
    (hob : Blk w9 OB D' 88) (hsz : D'.size = D.size) (hD : D'[k * 2]? = some (.slice a' vs.length c') ∧ D'[k * 2 + 1]? = some (.int .i64 st)) (hDo : ∀ j, j ≠ k * 2 → j ≠ k * 2 + 1 → D'[j]? = D[j]?)
    (hvs : ∀ p ∈ vs, p.2.oneCell' = true ∧ p.1.regs.length = 16) (hrow : OwnAt w9 91 21 Gn a' vs.length c' (gsC vs)) (hG : ∀ z, Gn z → (G k z ∨ w.heap.size ≤ z) ∧ z < w9.heap.size ∧ ¬ Rm' z) :
    ∃ R', SR w9 R' SB (s.set k (vs.map (·.1), st) x') ∧ Mv R R' w w9 := by
  have hf9 : Fr (fun z => z = OB ∨ G k z ∨ Rm z) w w9 := (hv.2.2.mono (fun z _ h => .inr (.inr h))).trans hf (fun z hz e => by
    rcases (hS z e).1 with h' | h' | h'
    · omega
    · exact .inl h'
    · exact .inr (.inl h'))
  have hu := h.upd ho hf9 hob hsz hD hDo hvs hrow (hm.fr hf (fun z hz e => (hS z e).2 hz)) (fun z hz => ⟨(hG z hz).1, (hG z hz).2.1⟩) hv.2.1 (fun z hz => (hG z hz).2.2)
  refine ⟨_, ⟨B, OB, oc, ids, _, _, _, _, _, _, hu⟩, fun z hz => .inl hz, fun z hz => ?_, ?_⟩
  · rcases hz with hz | hz | hz
    · exact .inl hz
    · exact (hG z hz).1.imp (h.inG k z) id
    · exact (hv.2.1 z hz).imp (h.inM z) id
  · refine hf9.mono (fun z _ hz => ?_)
    rcases hz with rfl | hz | hz
    · exact h.inS.2
    · exact h.inG k z hz
    · exact h.inM z hz

/-- One cell of an owned row is stored into. -/
theorem own_setAt {w : World} {E : TypeId} {sz n cap i : Nat} {R : Nat → Prop} {ao : Option Addr} {cs : List Value} (h : OwnAt w E sz R ao n cap cs) (hi : i < cs.length) : ∃ r off, ao = some ⟨r, off, none⟩ ∧ R r ∧ w.frozen? ⟨r, off + i, none⟩ = false ∧ w.cell? ⟨r, off + i, none⟩ = some cs[i] ∧
    ∀ v w1, w1 = w.setCell ⟨r, off + i, none⟩ v → OwnAt w1 E sz R ao n cap (cs.set i v) ∧ Fr (fun k => k = r) w w1 := by
  have hc := h.vw.2
  obtain ⟨h1, h2, h3, h4⟩ := h
  rcases h4 with h | ⟨r, off, C, e, hr, hb, hs, ht⟩
  · have : n * sz = 0 := by rw [show n = 0 by omega]; simp
    omega
  · have hle : n * sz ≤ cap * sz := Nat.mul_le_mul_right _ h1
    have hlt : off + i < C.size := by omega
    refine ⟨r, off, e, hr, hb.free _, ?_, ?_⟩
    · rcases hc with hc | ⟨r', off', e', _, hc⟩
      · rw [hc] at hi; simp at hi
      · rw [e] at e'
        simp at e'
        obtain ⟨rfl, rfl⟩ := e'
        exact hc i _ (by simp [hi])
    · rintro v w1 rfl
      refine ⟨⟨h1, h2, by simpa using h3, .inr ⟨r, off, _, e, hr, hb.set _ _, by simpa using hs, ?_⟩⟩, Fr.setCell (S := fun k => k = r) (Fr.refl _ w) (fun _ => rfl) _⟩
      rw [Array.toList_setIfInBounds, ← ht]
      apply List.ext_getElem?
      intro j
      by_cases hj : j < n * sz
      · rw [List.getElem?_take_of_lt hj, List.getElem?_drop]
        by_cases hij : i = j
        · subst hij
          rw [List.getElem?_set_self (by simp; omega), List.getElem?_set_self (by simp; omega)]
        · rw [List.getElem?_set_ne (by omega), List.getElem?_set_ne hij, List.getElem?_take_of_lt hj, List.getElem?_drop]
      · rw [List.getElem?_eq_none (by simp; omega), List.getElem?_eq_none (by simp; omega)]

def lessP (p : Gs × Value) : Gs × Value := (less p.1, p.2)
theorem gC_less {p : Gs × Value} (h : p.1.regs.length = 16) : (gC p).set 19 (.int .i64 (wrap64 (p.1.kept - 1))) = gC (lessP p) := by
  obtain ⟨⟨pl, rg, ov, kp, st⟩, v⟩ := p
  obtain ⟨r0, r1, r2, r3, r4, r5, r6, r7, r8, r9, r10, r11, r12, r13, r14, r15, rfl⟩ := list16 rg h
  rfl
theorem gsC_set {l : List (Gs × Value)} (h : ∀ p ∈ l, p.1.regs.length = 16) {i : Nat} {p : Gs × Value} (hp : l[i]? = some p) : (gsC l).set (i * 21 + 19) (.int .i64 (wrap64 (p.1.kept - 1))) = gsC (l.set i (lessP p)) := by
  induction l generalizing i with
  | nil => simp at hp
  | cons q l ih =>
    have hq := gC_length (h q (by simp))
    cases i with
    | zero =>
      obtain rfl : q = p := by simpa using hp
      simp only [gsC, List.flatMap_cons, Nat.zero_mul, Nat.zero_add, List.set_cons_zero]
      rw [List.set_append_left _ _ (by omega), gC_less (h q (by simp))]
    | succ i =>
      have := ih (fun q hq => h q (by simp [hq])) (i := i) (by simpa using hp)
      simp only [gsC, List.flatMap_cons, List.set_cons_succ] at this ⊢
      rw [List.set_append_right _ _ (by omega), hq, show (i + 1) * 21 + 19 - 21 = i * 21 + 19 by omega, this]
def lessN (j : Nat) (l : List (Gs × Value)) : List (Gs × Value) := (l.take j).map lessP ++ l.drop j
theorem lessN_zero (l : List (Gs × Value)) : lessN 0 l = l := by simp [lessN]
theorem lessN_length (j : Nat) (l : List (Gs × Value)) : (lessN j l).length = l.length := by simp [lessN]; omega
theorem lessN_all (l : List (Gs × Value)) : lessN l.length l = l.map lessP := by simp [lessN]
theorem lessN_get (j : Nat) (l : List (Gs × Value)) (h : j < l.length) : (lessN j l)[j]? = some l[j] := by
  unfold lessN
  rw [List.getElem?_append_right (by simp; omega)]
  simp [show min j l.length = j by omega, h]
theorem lessN_succ (j : Nat) (l : List (Gs × Value)) (h : j < l.length) : (lessN j l).set j (lessP l[j]) = lessN (j + 1) l := by
  unfold lessN
  have e : j - ((l.take j).map lessP).length = 0 := by simp; omega
  rw [List.set_append_right _ _ (by simp; omega), e, List.drop_eq_getElem_cons h, List.take_succ_eq_append_getElem h, List.set_cons_zero, List.map_append, List.append_assoc]
  rfl
theorem lessN_ok {j : Nat} {l : List (Gs × Value)} (h : ∀ p ∈ l, p.2.oneCell' = true ∧ p.1.regs.length = 16) : ∀ p ∈ lessN j l, p.2.oneCell' = true ∧ p.1.regs.length = 16 := by
  intro p hp
  rcases List.mem_append.1 hp with hp | hp
  · obtain ⟨q, hq, rfl⟩ := List.mem_map.1 hp
    exact h q (List.mem_of_mem_take hq)
  · exact h p (List.mem_of_mem_drop hp)

/-- What can be asked of the parts. -/
theorem sr_cases {w : World} {SB B OB oc : Nat} {ids : List (Nat × Nat)} {D : Array Value} {A : Nat → Option Addr} {C : Nat → Nat} {V : Nat → List (Gs × Value)} {G : Nat → Nat → Prop} {Rm R : Nat → Prop} {s : SM} (h : SRep w SB B OB oc ids D A C V G Rm R s) (n : Int) :
    (s.guesses n = none ∧ (n < 0 ∨ (s.op.length : Int) ≤ n)) ∨ ∃ (k : Nat) (o : Op), n = k ∧ k < s.op.length ∧ s.guesses n = some o ∧ s.op[k]? = some o ∧ w.cell? ⟨OB, k * 2, none⟩ = some (.slice (A k) o.1.length (C k)) ∧ w.cell? ⟨OB, k * 2 + 1, none⟩ = some (.int .i64 o.2) := by
  unfold SM.guesses
  by_cases hn : 0 ≤ n ∧ n < s.op.length
  · rw [if_pos hn]
    obtain ⟨k, rfl⟩ : ∃ k : Nat, n = k := ⟨n.toNat, by omega⟩
    have hk : k < s.op.length := by omega
    have ho : s.op[k]? = some s.op[k] := by simp [hk]
    refine .inr ⟨k, s.op[k], rfl, hk, by simp, ho, ?_, ?_⟩
    · rw [h.opens.cell]; exact (h.cells k _ ho).1
    · rw [h.opens.cell]; exact (h.cells k _ ho).2
  · rw [if_neg hn]
    exact .inl ⟨rfl, by omega⟩
end Go.Proofs.Ytbfeopakmjcapaa.Sp

/-
  What can be asked of a machine that guesses: its guesses, threads, memory, events, owners.
-/
namespace Go.Proofs.Ytbfeopakmjcapaa.Sp
open Go.RowKit Go.Proofs.Ytbfeopakmjcapaa.Seq Go.Proofs.Ytbfeopakmjcapaa.Tso
attribute [local irreducible] wpStill wpList Calls CallsIn

def openPtr (OB : Nat) (s : SM) (n : Int) : Option Addr := if 0 ≤ n ∧ n < s.op.length then some ⟨OB, n.toNat * 2, none⟩ else none

theorem guesses_is (SB B OB oc L : Nat) (n wn : Int) (w : World) (h0 : w.cell? ⟨SB, 0, none⟩ = some (.pointer (some ⟨B, 0, none⟩))) (h1 : w.cell? ⟨SB, 1, none⟩ = some (.slice (some ⟨OB, 0, none⟩) L oc)) :
    Calls Try.prog 38 #[.pointer (some ⟨SB, 0, none⟩), .int .i64 n] w fun e w' => e = .returned (.pointer (if 0 ≤ n ∧ n < L then some ⟨OB, n.toNat * 2, none⟩ else none)) ∧ Fr (fun _ => False) w w' := by
  have hlt := World.block_lt_of_cell? _ _ h0
  dsimp only at hlt
  by_cases hn : 0 ≤ n
  · by_cases hl : n < L
    · rw [if_pos ⟨hn, hl⟩]
      obtain ⟨k, rfl⟩ : ∃ k : Nat, n = k := ⟨n.toNat, by omega⟩
      rw [show ((k : Nat) : Int).toNat = k by simp]
      go_enter Try.func38, Try.ntmps38
      go_wp2_with (first | still_step | (with_reducible first | refine wpStill_nil ?_ | refine Flow.Both.mk ?_ ?_ | exact True.intro) | (with_reducible refine Flow.same_mk rfl rfl rfl ?_; go_simp; done) | (with_reducible exact Flow.same_un rfl rfl rfl) | (refine Flow.region_still mixed ?hB ?_; (case hB => decide +kernel)))
      go_ret
      exact ⟨by simp, by (with_reducible repeat' (first | exact Fr.refl _ _ | apply Fr.alloc | apply Fr.drew | apply Fr.drewN | refine Fr.setCell ?_ ?_ _))⟩
    · rw [if_neg (fun h => hl h.2)]
      go_enter Try.func38, Try.ntmps38
      go_wp2_with (first | still_step | (with_reducible first | refine wpStill_nil ?_ | refine Flow.Both.mk ?_ ?_ | exact True.intro) | (with_reducible refine Flow.same_mk rfl rfl rfl ?_; go_simp; done) | (with_reducible exact Flow.same_un rfl rfl rfl) | (refine Flow.region_still mixed ?hB ?_; (case hB => decide +kernel)))
      go_ret
      exact ⟨rfl, by (with_reducible repeat' (first | exact Fr.refl _ _ | apply Fr.alloc | apply Fr.drew | apply Fr.drewN | refine Fr.setCell ?_ ?_ _))⟩
  · rw [if_neg (fun h => hn h.1)]
    go_enter Try.func38, Try.ntmps38
    go_wp2_with (first | still_step | (with_reducible first | refine wpStill_nil ?_ | refine Flow.Both.mk ?_ ?_ | exact True.intro) | (with_reducible refine Flow.same_mk rfl rfl rfl ?_; go_simp; done) | (with_reducible exact Flow.same_un rfl rfl rfl) | (refine Flow.region_still mixed ?hB ?_; (case hB => decide +kernel)))
    go_ret
    exact ⟨rfl, by (with_reducible repeat' (first | exact Fr.refl _ _ | apply Fr.alloc | apply Fr.drew | apply Fr.drewN | refine Fr.setCell ?_ ?_ _))⟩

theorem inner_is (SB B : Nat) (w : World) (h0 : w.cell? ⟨SB, 0, none⟩ = some (.pointer (some ⟨B, 0, none⟩))) :
    Calls Try.prog 39 #[.pointer (some ⟨SB, 0, none⟩)] w fun e w' => e = .returned (.pointer (some ⟨B, 0, none⟩)) ∧ Fr (fun _ => False) w w' := by
  have hlt := World.block_lt_of_cell? _ _ h0
  dsimp only at hlt
  go_enter Try.func39, Try.ntmps39
  go_wp2_with (first | still_step | (with_reducible first | refine wpStill_nil ?_ | refine Flow.Both.mk ?_ ?_ | exact True.intro) | (with_reducible refine Flow.same_mk rfl rfl rfl ?_; go_simp; done) | (with_reducible exact Flow.same_un rfl rfl rfl) | (refine Flow.region_still mixed ?hB ?_; (case hB => decide +kernel)))
  go_ret
  exact ⟨rfl, by (with_reducible repeat' (first | exact Fr.refl _ _ | apply Fr.alloc | apply Fr.drew | apply Fr.drewN | refine Fr.setCell ?_ ?_ _))⟩

theorem count_is (SB : Nat) (R : Nat → Prop) (s : SM) (n : Int) (w : World) (h : SR w R SB s) :
    Calls Try.prog 17 #[.pointer (some ⟨SB, 0, none⟩), .int .i64 n] w fun e w' => e = .returned (.int .i64 (s.count n : Nat)) ∧ Fr (fun _ => False) w w' := by
  obtain ⟨B, OB, oc, ids, D, A, C, V, G, Rm, h⟩ := h
  have h0 := h.head.cell 0
  have h1 := h.head.cell 1
  have hg := fun (w1 : World) (hf : Fr (fun _ => False) w w1) => guesses_is SB B OB oc s.op.length n s.window w1 (hf.cell h0 (fun h => h)) (hf.cell h1 (fun h => h))
  have HG := hid hg
  clear hg
  unfold SM.count
  rcases sr_cases h n with ⟨hc, hn⟩ | ⟨k, o, rfl, hk, hc, ho, c0, c1⟩
  · rw [hc]
    clear h h0 h1
    go_enter Try.func17, Try.ntmps17
    go_wp2_with (first | still_step | (with_reducible first | refine wpStill_nil ?_ | refine Flow.Both.mk ?_ ?_ | exact True.intro) | (with_reducible refine Flow.same_mk rfl rfl rfl ?_; go_simp; done) | (with_reducible exact Flow.same_un rfl rfl rfl) | (refine Flow.region_still mixed ?hB ?_; (case hB => decide +kernel)))
    go_at_call 38
    refine (HG.out _ (by (with_reducible repeat' (first | exact Fr.refl _ _ | apply Fr.alloc | apply Fr.drew | apply Fr.drewN | refine Fr.setCell ?_ ?_ _)))).mono ?_
    rintro e w1 ⟨rfl, hf⟩
    rw [if_neg (by omega)]
    have HF := hid ((show Fr (fun _ => False) w _ by (with_reducible repeat' (first | exact Fr.refl _ _ | apply Fr.alloc | apply Fr.drew | apply Fr.drewN | refine Fr.setCell ?_ ?_ _))).trans hf (fun _ _ h => h))
    clear hf
    go_wp2_with (first | still_step | (with_reducible first | refine wpStill_nil ?_ | refine Flow.Both.mk ?_ ?_ | exact True.intro) | (with_reducible refine Flow.same_mk rfl rfl rfl ?_; go_simp; done) | (with_reducible exact Flow.same_un rfl rfl rfl) | (refine Flow.region_still mixed ?hB ?_; (case hB => decide +kernel)))
    go_ret
    exact ⟨rfl, HF.out⟩
  · rw [hc]
    obtain ⟨ol, os⟩ := o
    dsimp only at c0 c1 ⊢
    clear h h0 h1
    go_enter Try.func17, Try.ntmps17
    go_wp2_with (first | still_step | (with_reducible first | refine wpStill_nil ?_ | refine Flow.Both.mk ?_ ?_ | exact True.intro) | (with_reducible refine Flow.same_mk rfl rfl rfl ?_; go_simp; done) | (with_reducible exact Flow.same_un rfl rfl rfl) | (refine Flow.region_still mixed ?hB ?_; (case hB => decide +kernel)))
    go_at_call 38
    refine (HG.out _ (by (with_reducible repeat' (first | exact Fr.refl _ _ | apply Fr.alloc | apply Fr.drew | apply Fr.drewN | refine Fr.setCell ?_ ?_ _)))).mono ?_
    rintro e w1 ⟨rfl, hf⟩
    rw [if_pos (by omega), show ((k : Nat) : Int).toNat = k by simp]
    have HF := hid ((show Fr (fun _ => False) w _ by (with_reducible repeat' (first | exact Fr.refl _ _ | apply Fr.alloc | apply Fr.drew | apply Fr.drewN | refine Fr.setCell ?_ ?_ _))).trans hf (fun _ _ h => h))
    have c0' := HF.out.cell c0 (fun h => h)
    clear hf c0 c1
    go_wp2_with (first | still_step | (with_reducible first | refine wpStill_nil ?_ | refine Flow.Both.mk ?_ ?_ | exact True.intro) | (with_reducible refine Flow.same_mk rfl rfl rfl ?_; go_simp; done) | (with_reducible exact Flow.same_un rfl rfl rfl) | (refine Flow.region_still mixed ?hB ?_; (case hB => decide +kernel)))
    go_ret
    exact ⟨rfl, HF.out⟩

theorem memoryS_is (SB : Nat) (R : Nat → Prop) (s : SM) (w : World) (h : SR w R SB s) (hn : s.x.mem.length ≤ 100000) :
    Calls Try.prog 16 #[.pointer (some ⟨SB, 0, none⟩)] w fun e w' => ∃ a c, e = .returned (.slice a s.x.mem.length c) ∧ OwnAt w' 2 1 (fun k => w.heap.size ≤ k) a s.x.mem.length c (ints s.x.mem) ∧ Fr (fun _ => False) w w' := by
  obtain ⟨B, OB, oc, ids, D, A, C, V, G, Rm, h⟩ := h
  have h0 : w.cell? ⟨SB, 0, none⟩ = some (.pointer (some ⟨B, 0, none⟩)) := h.head.cell 0
  have hi := fun (w1 : World) (hf : Fr (fun _ => False) w w1) => inner_is SB B w1 (hf.cell h0 (fun h => h))
  have HI := hid hi
  have HM := hid h.mr
  clear h h0 hi
  go_enter Try.func16, Try.ntmps16
  go_wp2_with (first | still_step | (with_reducible first | refine wpStill_nil ?_ | refine Flow.Both.mk ?_ ?_ | exact True.intro) | (with_reducible refine Flow.same_mk rfl rfl rfl ?_; go_simp; done) | (with_reducible exact Flow.same_un rfl rfl rfl) | (refine Flow.region_still mixed ?hB ?_; (case hB => decide +kernel)))
  go_at_call 39
  refine (HI.out _ (by (with_reducible repeat' (first | exact Fr.refl _ _ | apply Fr.alloc | apply Fr.drew | apply Fr.drewN | refine Fr.setCell ?_ ?_ _)))).mono ?_
  rintro e w1 ⟨rfl, hf⟩
  have HF := hid ((show Fr (fun _ => False) w _ by (with_reducible repeat' (first | exact Fr.refl _ _ | apply Fr.alloc | apply Fr.drew | apply Fr.drewN | refine Fr.setCell ?_ ?_ _))).trans hf (fun _ _ h => h))
  clear hf
  go_wp2_with (first | still_step | (with_reducible first | refine wpStill_nil ?_ | refine Flow.Both.mk ?_ ?_ | exact True.intro) | (with_reducible refine Flow.same_mk rfl rfl rfl ?_; go_simp; done) | (with_reducible exact Flow.same_un rfl rfl rfl) | (refine Flow.region_still mixed ?hB ?_; (case hB => decide +kernel)))
  go_at_call 42
  refine Calls.named fun wc hwc => ?_
  have hfc : Fr (fun _ => False) w wc := by rw [hwc]; exact HF.out.trans (show Fr (fun _ => False) w1 _ by (with_reducible repeat' (first | exact Fr.refl _ _ | apply Fr.alloc | apply Fr.drew | apply Fr.drewN | refine Fr.setCell ?_ ?_ _))) (fun _ _ h => h)
  have HFC := hid hfc
  clear hwc hfc
  refine (memory_is B Rm ids s.x wc (HM.out.fr HFC.out (fun _ _ h => h)) hn).mono ?_
  rintro e w2 ⟨a, c, rfl, ho, hf2⟩
  have HO := hid (ho.mono (R2 := fun k => w.heap.size ≤ k) (fun k _ h => Nat.le_trans HFC.out.size h))
  have HF2 := hid (HFC.out.trans hf2 (fun _ _ h => h))
  clear ho hf2
  go_wp2_with (first | still_step | (with_reducible first | refine wpStill_nil ?_ | refine Flow.Both.mk ?_ ?_ | exact True.intro) | (with_reducible refine Flow.same_mk rfl rfl rfl ?_; go_simp; done) | (with_reducible exact Flow.same_un rfl rfl rfl) | (refine Flow.region_still mixed ?hB ?_; (case hB => decide +kernel)))
  go_ret
  exact ⟨a, c, rfl, HO.out, HF2.out⟩

theorem eventsS_is (SB : Nat) (R : Nat → Prop) (s : SM) (w : World) (h : SR w R SB s) (hn : evRoom s.x) :
    Calls Try.prog 15 #[.pointer (some ⟨SB, 0, none⟩)] w fun e w' => ∃ a c, e = .returned (.slice a s.x.events.length c) ∧ OwnAt w' 53 3 (fun k => w.heap.size ≤ k) a s.x.events.length c (evC s.x.events) ∧ Fr (fun _ => False) w w' := by
  obtain ⟨B, OB, oc, ids, D, A, C, V, G, Rm, h⟩ := h
  have h0 : w.cell? ⟨SB, 0, none⟩ = some (.pointer (some ⟨B, 0, none⟩)) := h.head.cell 0
  have hi := fun (w1 : World) (hf : Fr (fun _ => False) w w1) => inner_is SB B w1 (hf.cell h0 (fun h => h))
  have HI := hid hi
  have HM := hid h.mr
  clear h h0 hi
  go_enter Try.func15, Try.ntmps15
  go_wp2_with (first | still_step | (with_reducible first | refine wpStill_nil ?_ | refine Flow.Both.mk ?_ ?_ | exact True.intro) | (with_reducible refine Flow.same_mk rfl rfl rfl ?_; go_simp; done) | (with_reducible exact Flow.same_un rfl rfl rfl) | (refine Flow.region_still mixed ?hB ?_; (case hB => decide +kernel)))
  go_at_call 39
  refine (HI.out _ (by (with_reducible repeat' (first | exact Fr.refl _ _ | apply Fr.alloc | apply Fr.drew | apply Fr.drewN | refine Fr.setCell ?_ ?_ _)))).mono ?_
  rintro e w1 ⟨rfl, hf⟩
  have HF := hid ((show Fr (fun _ => False) w _ by (with_reducible repeat' (first | exact Fr.refl _ _ | apply Fr.alloc | apply Fr.drew | apply Fr.drewN | refine Fr.setCell ?_ ?_ _))).trans hf (fun _ _ h => h))
  clear hf
  go_wp2_with (first | still_step | (with_reducible first | refine wpStill_nil ?_ | refine Flow.Both.mk ?_ ?_ | exact True.intro) | (with_reducible refine Flow.same_mk rfl rfl rfl ?_; go_simp; done) | (with_reducible exact Flow.same_un rfl rfl rfl) | (refine Flow.region_still mixed ?hB ?_; (case hB => decide +kernel)))
  go_at_call 41
  refine Calls.named fun wc hwc => ?_
  have hfc : Fr (fun _ => False) w wc := by rw [hwc]; exact HF.out.trans (show Fr (fun _ => False) w1 _ by (with_reducible repeat' (first | exact Fr.refl _ _ | apply Fr.alloc | apply Fr.drew | apply Fr.drewN | refine Fr.setCell ?_ ?_ _))) (fun _ _ h => h)
  have HFC := hid hfc
  clear hwc hfc
  refine (events_is B Rm ids s.x wc (HM.out.fr HFC.out (fun _ _ h => h)) hn).mono ?_
  rintro e w2 ⟨a, c, rfl, ho, hf2⟩
  have HO := hid (ho.mono (R2 := fun k => w.heap.size ≤ k) (fun k _ h => Nat.le_trans HFC.out.size h))
  have HF2 := hid (HFC.out.trans hf2 (fun _ _ h => h))
  clear ho hf2
  go_wp2_with (first | still_step | (with_reducible first | refine wpStill_nil ?_ | refine Flow.Both.mk ?_ ?_ | exact True.intro) | (with_reducible refine Flow.same_mk rfl rfl rfl ?_; go_simp; done) | (with_reducible exact Flow.same_un rfl rfl rfl) | (refine Flow.region_still mixed ?hB ?_; (case hB => decide +kernel)))
  go_ret
  exact ⟨a, c, rfl, HO.out, HF2.out⟩

theorem ownerS_is (SB : Nat) (R : Nat → Prop) (s : SM) (n : Int) (w : World) (h : SR w R SB s) :
    Calls Try.prog 30 #[.pointer (some ⟨SB, 0, none⟩), .int .i64 n] w fun e w' => e = .returned (.int .i64 (s.x.ownerOf n)) ∧ Fr (fun _ => False) w w' := by
  obtain ⟨B, OB, oc, ids, D, A, C, V, G, Rm, h⟩ := h
  have h0 : w.cell? ⟨SB, 0, none⟩ = some (.pointer (some ⟨B, 0, none⟩)) := h.head.cell 0
  have hi := fun (w1 : World) (hf : Fr (fun _ => False) w w1) => inner_is SB B w1 (hf.cell h0 (fun h => h))
  have HI := hid hi
  have HM := hid h.mr
  clear h h0 hi
  go_enter Try.func30, Try.ntmps30
  go_wp2_with (first | still_step | (with_reducible first | refine wpStill_nil ?_ | refine Flow.Both.mk ?_ ?_ | exact True.intro) | (with_reducible refine Flow.same_mk rfl rfl rfl ?_; go_simp; done) | (with_reducible exact Flow.same_un rfl rfl rfl) | (refine Flow.region_still mixed ?hB ?_; (case hB => decide +kernel)))
  go_at_call 39
  refine (HI.out _ (by (with_reducible repeat' (first | exact Fr.refl _ _ | apply Fr.alloc | apply Fr.drew | apply Fr.drewN | refine Fr.setCell ?_ ?_ _)))).mono ?_
  rintro e w1 ⟨rfl, hf⟩
  have HF := hid ((show Fr (fun _ => False) w _ by (with_reducible repeat' (first | exact Fr.refl _ _ | apply Fr.alloc | apply Fr.drew | apply Fr.drewN | refine Fr.setCell ?_ ?_ _))).trans hf (fun _ _ h => h))
  clear hf
  go_wp2_with (first | still_step | (with_reducible first | refine wpStill_nil ?_ | refine Flow.Both.mk ?_ ?_ | exact True.intro) | (with_reducible refine Flow.same_mk rfl rfl rfl ?_; go_simp; done) | (with_reducible exact Flow.same_un rfl rfl rfl) | (refine Flow.region_still mixed ?hB ?_; (case hB => decide +kernel)))
  go_at_call 49
  refine Calls.named fun wc hwc => ?_
  have hfc : Fr (fun _ => False) w wc := by rw [hwc]; exact HF.out.trans (show Fr (fun _ => False) w1 _ by (with_reducible repeat' (first | exact Fr.refl _ _ | apply Fr.alloc | apply Fr.drew | apply Fr.drewN | refine Fr.setCell ?_ ?_ _))) (fun _ _ h => h)
  have HFC := hid hfc
  clear hwc hfc
  refine (owner_is B Rm ids s.x n wc (HM.out.fr HFC.out (fun _ _ h => h))).mono ?_
  rintro e w2 ⟨rfl, hf2⟩
  have HF2 := hid (HFC.out.trans hf2 (fun _ _ h => h))
  clear hf2
  go_wp2_with (first | still_step | (with_reducible first | refine wpStill_nil ?_ | refine Flow.Both.mk ?_ ?_ | exact True.intro) | (with_reducible refine Flow.same_mk rfl rfl rfl ?_; go_simp; done) | (with_reducible exact Flow.same_un rfl rfl rfl) | (refine Flow.region_still mixed ?hB ?_; (case hB => decide +kernel)))
  go_ret
  exact ⟨rfl, HF2.out⟩
end Go.Proofs.Ytbfeopakmjcapaa.Sp

/-
  New of package spec: a machine that guesses, at its beginning.
-/
namespace Go.Proofs.Ytbfeopakmjcapaa.Sp
open Go.RowKit Go.Proofs.Ytbfeopakmjcapaa.Seq Go.Proofs.Ytbfeopakmjcapaa.Tso
attribute [local irreducible] wpStill wpList Calls CallsIn

theorem infoO : (Try.prog.info? 88).map (fun i => (i.zero, i.size, i.bytes)) = some (some (.agg #[.slice none 0 0, .int .i64 0]), 2, 32) := by kernel_rfl
theorem run_makeO {P : Program} {o : Oper} {a : Act} {w : World} {l c : Operand} {t e : TypeId} {z : Value} {size bytes : Nat} (ho : o.op = .makeSlice t l c) (ht : P.underlying t = some (.slice e)) (hinfo : (P.info? e).map (fun i => (i.zero, i.size, i.bytes)) = some (some z, size, bytes)) (n : Nat) (hl : a.eval l = .int .i64 (n : Int)) (hc : a.eval c = .int .i64 (n : Int)) (hb : bytes * n ≤ 281474976710656) (h63 : n ≤ 9223372036854775807) :
    (execOp a.eval o).run P w = .ok (.value (.slice (some ⟨w.heap.size, 0, none⟩) n n)) (w.alloc (.cells (madeCells z.cells (n * size)) e)) := by
  unfold execOp
  simp only [ho, hl, hc]
  have := run_makeG (P := P) ht hinfo n hb h63 w
  simp [this]
theorem made_open (n i : Nat) (h : i < n) : (madeCells (Value.agg #[.slice none 0 0, .int .i64 0]).cells (n * 2))[i * 2]? = some (.slice none 0 0) ∧ (madeCells (Value.agg #[.slice none 0 0, .int .i64 0]).cells (n * 2))[i * 2 + 1]? = some (.int .i64 0) := by
  unfold madeCells
  refine ⟨?_, ?_⟩
  · have h1 : i * 2 < n * 2 := by omega
    simp [Value.cells, h1, Nat.mul_mod_left]
  · have h1 : i * 2 + 1 < n * 2 := by omega
    have h2 : (i * 2 + 1) % 2 = 1 := by omega
    simp [Value.cells, h1, h2]

def startS (codes : List (List Ins)) (words : Nat) (mem : List Int) (locks room : Nat) (window : Int) : SM := ⟨Tso.start codes words mem locks room, List.replicate codes.length ([], 0), window⟩

theorem snew_is (Rc Rm : Nat → Prop) (ao am aa : Option Addr) (co cm an ac : Nat) (qs : List ((Option Addr × Nat) × List Ins)) (words locks room : Nat) (window : Int) (mem : List Int) (w : World) (hc : Codes w Rc ao qs) (hm : Vw w 1 Rm am mem.length (ints mem)) (hmn : am = none → mem.length = 0)
    (hq : qs.length ≤ 1000) (hl : mem.length ≤ 100000) (hi : ∀ q ∈ qs, q.2.length ≤ 100000) (hw : words ≤ 65536) (hlk : locks ≤ 8) (hr : 1 ≤ room ∧ room ≤ 1000) (hwin : 1 ≤ window ∧ window ≤ 64) :
    Calls Try.prog 12 #[.agg #[.slice ao qs.length co, .slice aa an ac, .int .i64 (words : Int), .int .i64 (locks : Int)], .slice am mem.length cm, .agg #[.int .i64 (room : Int), .int .i64 window]] w fun e w' =>
      ∃ SB, e = .returned (.pointer (some ⟨SB, 0, none⟩)) ∧ SR w' (fun k => w.heap.size ≤ k ∧ k < w'.heap.size) SB (startS (qs.map (·.2)) words mem locks room window) ∧ Fr (fun _ => False) w w' := by
  have HC := hid hc
  have HM := hid hm
  have HMN := hid hmn
  have HI := hid hi
  obtain ⟨QL, hQL⟩ : ∃ QL, QL = qs.length := ⟨_, rfl⟩
  have HQL := hid hQL
  rw [← hQL] at hq ⊢
  obtain ⟨ML, hML⟩ : ∃ ML, ML = mem.length := ⟨_, rfl⟩
  have HML := hid hML
  rw [← hML] at hl ⊢
  have HX := hid (Blk.new w #[.slice ao QL co, .slice aa an ac, .int .i64 (words : Int), .int .i64 (locks : Int)] 25)
  clear hc hm hmn hi hQL hML
  go_enter Try.func12, Try.ntmps12
  go_wp2_with (first | still_step | (with_reducible first | refine wpStill_nil ?_ | refine Flow.Both.mk ?_ ?_ | exact True.intro) | (with_reducible refine Flow.same_mk rfl rfl rfl ?_; go_simp; done) | (with_reducible exact Flow.same_un rfl rfl rfl) | (with_reducible refine Flow.region_flow (id := 4) [0, 0, 2, 6, 14, 0, 32, 127, 255, 511] 400 110 [(0, none), (1, none), (2, none), (3, none), (5, none), (6, none), (4, some [5, 6]), (7, some []), (8, some []), (9, none)] mixed ?hB ?_; (case hB => decide +kernel); simp only [Flow.textOf, Flow.q1, Flow.q2, Flow.q3, Flow.q4, Flow.q5, Flow.q6, Flow.q7, Flow.q8, Flow.q9, Flow.wpFl, Flow.SameAll]) | (refine Flow.region_still mixed ?hB ?_; (case hB => decide +kernel)))
  go_at_call 32
  refine Calls.named fun wc hwc => ?_
  have hfc : Fr (fun _ => False) w wc := by rw [hwc]; (with_reducible repeat' (first | exact Fr.refl _ _ | apply Fr.alloc | apply Fr.drew | apply Fr.drewN | refine Fr.setCell ?_ ?_ _))
  have hx : Blk wc w.heap.size #[.slice ao QL co, .slice aa an ac, .int .i64 (words : Int), .int .i64 (locks : Int)] 25 := by rw [hwc]; exact HX.out.alloc _
  have hy : Blk wc (w.heap.size + 1) #[.int .i64 (room : Int), .int .i64 window] 35 := by rw [hwc]; exact Blk.new' (by simp)
  rw [HQL.out, HML.out]
  refine (new_is Rc Rm ao am aa co cm an ac qs words locks room mem wc (HC.out.fr hfc (fun _ _ h => h)) (HM.out.fr hfc (fun _ _ h => h)) HMN.out (by have := HQL.out; omega) (by have := HML.out; omega) HI.out hw hlk hr).mono ?_
  rintro e w1 ⟨B, ids, rfl, hm1, hf1⟩
  rw [← HQL.out, ← HML.out]
  have hx1 := hx.fr hf1 (fun h => h)
  have hy1 := hy.fr hf1 (fun h => h)
  have c0_i := Blk.cell hx1 0
  have f0_i := Blk.free hx1 0
  have c1_i := Blk.cell hx1 1
  have f1_i := Blk.free hx1 1
  have c2_i := Blk.cell hx1 2
  have f2_i := Blk.free hx1 2
  have c3_i := Blk.cell hx1 3
  have f3_i := Blk.free hx1 3
  have l_i := Blk.lt hx1
  have c0_y := Blk.cell hy1 0
  have f0_y := Blk.free hy1 0
  have c1_y := Blk.cell hy1 1
  have f1_y := Blk.free hy1 1
  have l_y := Blk.lt hy1
  have HF1 := hid (hfc.trans hf1 (fun _ _ h => h))
  have HM1 := hid hm1
  have hwc1 : w.heap.size ≤ wc.heap.size := hfc.size
  clear hwc hfc hx hy hm1 hf1 hx1 hy1 HC HM HMN HI HX
  have hw2 : ¬ (window < 1) := by omega
  have hw3 : ¬ (64 < window) := by omega
  go_wp2_with (first | ((with_reducible apply wpList_does); (case zlw => rfl); (case zlr => exact run_makeO rfl Try.underlying76 infoO QL rfl rfl (by omega) (by omega)); simp only [World.alloc_drew, World.size_alloc, World.size_drew]) | still_step | (with_reducible first | refine wpStill_nil ?_ | refine Flow.Both.mk ?_ ?_ | exact True.intro) | (with_reducible refine Flow.same_mk rfl rfl rfl ?_; go_simp; done) | (with_reducible exact Flow.same_un rfl rfl rfl) | (with_reducible refine Flow.region_flow (id := 4) [0, 0, 2, 6, 14, 0, 32, 127, 255, 511] 400 110 [(0, none), (1, none), (2, none), (3, none), (5, none), (6, none), (4, some [5, 6]), (7, some []), (8, some []), (9, none)] mixed ?hB ?_; (case hB => decide +kernel); simp only [Flow.textOf, Flow.q1, Flow.q2, Flow.q3, Flow.q4, Flow.q5, Flow.q6, Flow.q7, Flow.q8, Flow.q9, Flow.wpFl, Flow.SameAll]) | (refine Flow.region_still mixed ?hB ?_; (case hB => decide +kernel)))
  go_ret
  obtain ⟨w9, hw9⟩ : ∃ w9, w9 = ((w1.alloc (.cells (madeCells #[Value.slice none 0 0, Value.int .i64 0] (QL * 2)) 88)).alloc (.cells #[.pointer (some ⟨B, 0, none⟩), .slice (some ⟨w1.heap.size, 0, none⟩) QL QL, .int .i64 window] 78)).drew := ⟨_, rfl⟩
  rw [← hw9]
  have hf9 : Fr (fun _ => False) w1 w9 := by rw [hw9]; (with_reducible repeat' (first | exact Fr.refl _ _ | apply Fr.alloc | apply Fr.drew | apply Fr.drewN | refine Fr.setCell ?_ ?_ _))
  have hb1 : Blk w9 w1.heap.size (madeCells #[Value.slice none 0 0, Value.int .i64 0] (QL * 2)) 88 := by rw [hw9]; exact (Blk.new w1 _ _).alloc _
  have hb2 : Blk w9 (w1.heap.size + 1) #[.pointer (some ⟨B, 0, none⟩), .slice (some ⟨w1.heap.size, 0, none⟩) QL QL, .int .i64 window] 78 := by rw [hw9]; exact Blk.new' (by simp)
  have hs9 : w9.heap.size = w1.heap.size + 2 := by rw [hw9]; simp
  have hs1 := HF1.out.size
  have hlen : (startS (qs.map (·.2)) words mem locks room window).op.length = QL := by
    unfold startS
    simp
    exact HQL.out.symm
  have hget : ∀ (i : Nat) (o : Op), (startS (qs.map (·.2)) words mem locks room window).op[i]? = some o → o = ([], 0) ∧ i < QL := by
    intro i o ho
    have h1 := (List.getElem?_eq_some_iff.1 ho).1
    rw [hlen] at h1
    unfold startS at ho
    simp only [List.getElem?_replicate] at ho
    split at ho
    · exact ⟨(Option.some.inj ho).symm, h1⟩
    · cases ho
  refine ⟨w1.heap.size + 1, rfl, ⟨B, w1.heap.size, QL, ids, madeCells #[Value.slice none 0 0, Value.int .i64 0] (QL * 2), fun _ => none, fun _ => 0, fun _ => [], fun _ _ => False, fun k => wc.heap.size ≤ k ∧ k < w1.heap.size, ?_⟩, HF1.out.trans hf9 (fun _ _ h => h)⟩
  refine ⟨?_, hb1, ?_, ?_, ?_, HM1.out.fr hf9 (fun _ _ h => h), ⟨⟨by omega, by omega⟩, ⟨by omega, by omega⟩⟩, fun _ _ h => h.elim, fun k hk => ⟨by omega, by omega⟩, ⟨fun h => by omega, fun h => by omega⟩, fun _ _ h => h.elim, fun _ _ h => h.elim, by omega, fun _ _ _ h => h.elim, fun k hk => hk.2⟩
  · rw [hlen]
    exact hb2
  · rw [hlen, size_madeCells]
  · intro i o ho
    obtain ⟨rfl, hi⟩ := hget i o ho
    exact made_open QL i hi
  · intro i o ho
    obtain ⟨rfl, hi⟩ := hget i o ho
    exact ⟨rfl, fun p hp => (by cases hp), OwnAt.nil _ _ _ _ _⟩
end Go.Proofs.Ytbfeopakmjcapaa.Sp
