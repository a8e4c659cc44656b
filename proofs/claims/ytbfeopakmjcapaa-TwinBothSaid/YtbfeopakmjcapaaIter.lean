/-
  A range over a function whose iterator changes memory of its own between two rounds: what the caller owes.
-/
import Derived.Test.YtbfeopakmjcapaaMem
import Derived.RangeFuncNested
import Derived.RangeFuncBound
import Derived.RangeFuncCalls
import Derived.RangeFuncLeaves
set_option linter.unusedVariables false
set_option linter.unusedSimpArgs false
set_option maxHeartbeats 4000000
set_option maxRecDepth 8000
namespace Go.Proofs.Ytbfeopakmjcapaa
open Go.RowKit

/-- Somebody else's part of memory, of which R are the blocks. -/
structure RepOk {σ : Type} (Rp : σ → (Nat → Prop) → World → Prop) : Prop where
  fr : ∀ {st : σ} {R S : Nat → Prop} {W W' : World}, Rp st R W → Fr S W W' → (∀ z, R z → ¬ S z) → Rp st R W'
  lt : ∀ {st : σ} {R : Nat → Prop} {W : World}, Rp st R W → ∀ z, R z → z < W.heap.size

/-- His part, my own blocks with what lies in them, and all else as it was in w0. -/
structure At {σ : Type} (Rp : σ → (Nat → Prop) → World → Prop) (w0 : World) (R : Nat → Prop) (st : σ) (L : List (Nat × Obj)) (W : World) : Prop where
  rep : Rp st R W
  keep : ∀ e ∈ L, W.heap[e.1]? = some e.2 ∧ ¬ R e.1 ∧ w0.heap.size ≤ e.1
  nodup : (L.map (·.1)).Nodup
  fr0 : Fr (fun _ => False) w0 W
  up : ∀ z, R z → w0.heap.size ≤ z

namespace At
variable {σ : Type} {Rp : σ → (Nat → Prop) → World → Prop} {w0 W W' : World} {R R' S : Nat → Prop} {st st' : σ} {L L1 L2 Lx : List (Nat × Obj)}

theorem lt (h : At Rp w0 R st L W) {e : Nat × Obj} (he : e ∈ L) : e.1 < W.heap.size := (Array.getElem?_eq_some_iff.1 (h.keep e he).1).1
/-- Nothing of it has changed. -/
theorem fr (hok : RepOk Rp) (h : At Rp w0 R st L W) (hf : Fr (fun _ => False) W W') : At Rp w0 R st L W' :=
  ⟨hok.fr h.rep hf (fun _ _ h => h), fun e he => ⟨(hf.block e.1 (h.lt he) (fun h => h)).trans (h.keep e he).1, (h.keep e he).2⟩, h.nodup, h.fr0.trans hf (fun _ _ h => h), h.up⟩
/-- My own blocks have changed, or new ones come. -/
theorem step (hok : RepOk Rp) (h : At Rp w0 R st (Lx ++ L1) W) (hf : Fr S W W') (hS : ∀ z, z < W.heap.size → S z → ∃ e ∈ L1, e.1 = z) (hn : (L2.map (·.1)).Nodup)
    (h2 : ∀ e ∈ L2, W'.heap[e.1]? = some e.2 ∧ ((∃ d ∈ L1, d.1 = e.1) ∨ W.heap.size ≤ e.1)) : At Rp w0 R st (Lx ++ L2) W' := by
  have hnd := h.nodup
  rw [List.map_append, List.nodup_append] at hnd
  obtain ⟨n1, n2, n3⟩ := hnd
  refine ⟨hok.fr (S := fun z => S z ∧ z < W.heap.size) h.rep (hf.mono (fun z hz h => ⟨h, hz⟩)) ?_, ?_, ?_, ?_, h.up⟩
  · intro z hz hs
    obtain ⟨e, he, rfl⟩ := hS z hs.2 hs.1
    exact (h.keep e (List.mem_append.2 (.inr he))).2.1 hz
  · intro e he
    rcases List.mem_append.1 he with he | he
    · have hk := h.keep e (List.mem_append.2 (.inl he))
      refine ⟨(hf.block e.1 (h.lt (List.mem_append.2 (.inl he))) (fun hs => ?_)).trans hk.1, hk.2⟩
      obtain ⟨d, hd, hde⟩ := hS _ (h.lt (List.mem_append.2 (.inl he))) hs
      exact n3 e.1 (List.mem_map.2 ⟨e, he, rfl⟩) d.1 (List.mem_map.2 ⟨d, hd, rfl⟩) hde.symm
    · obtain ⟨h1, h3⟩ := h2 e he
      refine ⟨h1, ?_⟩
      rcases h3 with ⟨d, hd, hde⟩ | h3
      · rw [← hde]; exact (h.keep d (List.mem_append.2 (.inr hd))).2
      · exact ⟨fun hr => by have := hok.lt h.rep _ hr; omega, Nat.le_trans h.fr0.size h3⟩
  · rw [List.map_append, List.nodup_append]
    refine ⟨n1, hn, ?_⟩
    intro a ha b hb hab
    subst hab
    obtain ⟨e, he, rfl⟩ := List.mem_map.1 ha
    obtain ⟨d, hd, hde⟩ := List.mem_map.1 hb
    rcases (h2 d hd).2 with ⟨d', hd', hde'⟩ | h3
    · exact n3 e.1 (List.mem_map.2 ⟨e, he, rfl⟩) d'.1 (List.mem_map.2 ⟨d', hd', rfl⟩) (by rw [hde', hde])
    · have := h.lt (List.mem_append.2 (.inl he)); omega
  · exact h.fr0.trans hf (fun z hz hs => by
      obtain ⟨e, he, rfl⟩ := hS z (Nat.lt_of_lt_of_le hz h.fr0.size) hs
      have := (h.keep e (List.mem_append.2 (.inr he))).2.2
      omega)
/-- Fewer of my blocks are kept in mind. -/
theorem less (h : At Rp w0 R st L W) (hs : L2.Sublist L) : At Rp w0 R st L2 W :=
  ⟨h.rep, fun e he => h.keep e (hs.subset he), h.nodup.sublist (hs.map _), h.fr0, h.up⟩
/-- His part has changed. -/
theorem mv (h : At Rp w0 R st L W) (hr : Rp st' R' W') (h1 : ∀ k, R' k → R k ∨ W.heap.size ≤ k) (hf : Fr R W W') : At Rp w0 R' st' L W' :=
  ⟨hr, fun e he => by
    obtain ⟨k1, k2, k3⟩ := h.keep e he
    refine ⟨(hf.block e.1 (h.lt he) k2).trans k1, fun hr => ?_, k3⟩
    rcases h1 _ hr with h' | h'
    · exact k2 h'
    · have := h.lt he; omega, h.nodup, h.fr0.trans hf (fun z hz hr => by have := h.up z hr; omega), fun z hz => by
    rcases h1 z hz with h' | h'
    · exact h.up z h'
    · have := h.fr0.size; omega⟩
theorem fr_put (W : World) (l : Nat) (o : Obj) : Fr (fun z => z = l) W (W.putObj l o) :=
  ⟨rfl, rfl, rfl, by simp, fun k _ hn => World.putObj_heap_other hn⟩
/-- What lies in one of my blocks is another thing. -/
theorem put {l : Nat} {o : Obj} (hok : RepOk Rp) (h : At Rp w0 R st ((l, o) :: L) W) (o' : Obj) : At Rp w0 R st ((l, o') :: L) (W.putObj l o') := by
  have hl := h.lt (List.mem_cons_self ..)
  have hnd := h.nodup
  simp only [List.map_cons, List.nodup_cons] at hnd
  refine At.step (Lx := []) (L1 := (l, o) :: L) (L2 := (l, o') :: L) hok h (fr_put W l o') ?_ (by simpa using h.nodup) ?_
  · intro z _ hz
    exact ⟨(l, o), List.mem_cons_self .., hz.symm⟩
  · intro e he
    rcases List.mem_cons.1 he with rfl | he2
    · exact ⟨World.putObj_heap_same hl, .inl ⟨(l, o), List.mem_cons_self .., rfl⟩⟩
    · refine ⟨(World.putObj_heap_other ?_).trans (h.keep e (List.mem_cons_of_mem _ he2)).1, .inl ⟨e, List.mem_cons_of_mem _ he2, rfl⟩⟩
      intro hel
      exact hnd.1 (List.mem_map.2 ⟨e, he2, hel⟩)
/-- A block of mine more. -/
theorem alloc (hok : RepOk Rp) (h : At Rp w0 R st L W) (o : Obj) : At Rp w0 R st ((W.heap.size, o) :: L) (W.alloc o) := by
  have hf : Fr (fun _ => False) W (W.alloc o) := (Fr.refl _ W).alloc o
  have h1 := h.fr hok hf
  refine ⟨h1.rep, ?_, ?_, h1.fr0, h1.up⟩
  · intro e he
    rcases List.mem_cons.1 he with rfl | he
    · exact ⟨World.alloc_heap_new W o, fun hr => by have := hok.lt h.rep _ hr; dsimp only at this; omega, h.fr0.size⟩
    · exact h1.keep e he
  · simp only [List.map_cons, List.nodup_cons]
    refine ⟨fun hm => ?_, h.nodup⟩
    obtain ⟨e, he, hee⟩ := List.mem_map.1 hm
    have := h.lt he
    omega
end At

/-- The iterator gives xs, and leaves st as st'. -/
def IterRuns {α σ : Type} (F : Fence) (n : Nat) (P : Program) (gf : Nat) (lb : Array Value) (encs : α → Array Value) (Rp : σ → (Nat → Prop) → World → Prop) (Lb : List (Nat × Obj)) (w0 : World) (st st' : σ) (xs : List α) : Prop :=
  ∀ (l : Nat) (K : List α → List (Nat × Obj) → Prop) (R : Nat → Prop) (L : List (Nat × Obj)) (W : World), At Rp w0 R st L W → K [] L → (∀ pre L, K pre L → ∀ e ∈ Lb, e ∈ L) →
    (∀ pre x R st L W, pre ++ [x] <+: xs → At Rp w0 R st L W → K pre L → YieldAt F (n - 1) P l (encs x) W fun e W' => e = .returned (.bool true) ∧ ∃ L', At Rp w0 R st L' W' ∧ K (pre ++ [x]) L') →
    CallsIn F n P gf (#[.func (.yield l) #[] #[]] ++ lb) W fun e W' => (∃ v, e = .returned v) ∧ ∃ R' L', At Rp w0 R' st' L' W' ∧ K xs L'

/-- The statement 'for .. := range g { .. }' whose body is never left early. -/
theorem wpIn_rangeFunc_at {α σ : Type} {F : Fence} {n : Nat} {P : Program} {g : Operand} {ps : Array Tmp} {assign body : Code} {Q : Exit → Act → World → Prop} {a : Act} {w : World}
    (hro : F.round = none) (h1 : 1 ≤ n) {gf : Nat} {lb : Array Value} (hg : a.eval g = .func (.func gf) #[] lb) (hFg : F.fn gf) (eg : ∀ args w, (callFunc gf args).run P w = .ok (.enter gf args) w)
    {encs : α → Array Value} {Rp : σ → (Nat → Prop) → World → Prop} (hok : RepOk Rp) {Lb L : List (Nat × Obj)} {w0 : World} {R : Nat → Prop} {st st' : σ} {xs : List α} (hseq : IterRuns F (n - 1) P gf lb encs Rp Lb w0 st st' xs) (hps : ∀ x, (encs x).size = ps.size)
    (hat : At Rp w0 R st L w) (K : List α → List (Nat × Obj) → Prop) (h0 : K [] L) (hKb : ∀ pre L, K pre L → ∀ e ∈ Lb, e ∈ L) (Ax : List α → α → List (Nat × Obj) → Act → Prop)
    (hassign : ∀ (l : Nat) (pre : List α) (x : α) (R : Nat → Prop) (st : σ) (Lx L : List (Nat × Obj)) (W : World), pre ++ [x] <+: xs → At Rp w0 R st (Lx ++ L) W → K pre L →
      assign.wpIn (F.inRound l) (n - 1 - 1) P (Exit.then (fun a' W' => ∃ L', At Rp w0 R st (Lx ++ L') W' ∧ Ax pre x L' a') (fun _ _ _ => False)) { tmps := (ps.zip (encs x)).foldl (fun t (p, v) => t.setIfInBounds p v) a.tmps, defers := [] } W)
    (hbody : ∀ (l : Nat) (pre : List α) (x : α) (R : Nat → Prop) (st : σ) (Lx L : List (Nat × Obj)) (a' : Act) (W : World), pre ++ [x] <+: xs → At Rp w0 R st (Lx ++ L) W → Ax pre x L a' →
      body.wpIn (F.inRound l) (n - 1 - 1) P (Exit.then (fun _ W' => ∃ L', At Rp w0 R st (Lx ++ L') W' ∧ K (pre ++ [x]) L') (fun _ _ _ => False)) a' W)
    (hdone : ∀ (D : Nat) (R' : Nat → Prop) (L' : List (Nat × Obj)) (W : World), At Rp w0 R' st' ((D, .deferred (some [])) :: L') W → K xs L' → Q .normal { a with defers := { target := .collected D, args := #[] } :: a.defers } W) :
    (Code.rangeFunc g ps assign body).wpIn F n P Q a w := by
  refine wpIn_rangeFunc ?_
  intro fn hfn
  rw [hro]
  obtain ⟨rec, hrec⟩ : ∃ rec : LoopState → Option Code → Loop, rec = fun st pe => { state := st, pending := pe, fn, tmps := a.tmps, params := ps, assign, body, defers := w.heap.size } := ⟨_, rfl⟩
  obtain ⟨W1, hW1⟩ : ∃ W1, (w.alloc (.deferred (some []))).alloc (.loop (rec .ready none)) = W1 := ⟨_, rfl⟩
  have hat1 : At Rp w0 R st ((w.heap.size + 1, .loop (rec .ready none)) :: (w.heap.size, .deferred (some [])) :: L) W1 := by
    rw [← hW1]
    have := (hat.alloc hok (.deferred (some []))).alloc hok (.loop (rec .ready none))
    rwa [World.size_alloc] at this
  refine ⟨w.heap.size + 1, [{ target := .collected w.heap.size, args := #[] }], W1, { target := .fn (.func gf) lb, args := #[.func (.yield (w.heap.size + 1)) #[] #[]] }, W1, gf,
    #[.func (.yield (w.heap.size + 1)) #[] #[]] ++ lb, W1, ?_, ?_, ?_, ?_, fun _ => h1, ?_⟩
  · rw [← hW1, hrec]; exact run_enterLoop_outer _ _ _ _ _
  · simp only [resolve, hg]
    simp [go_sem]
  · intro f' hf'; simp [Target.leads] at hf'; subst hf'; exact hFg
  · simp [invoke, go_sem, eg]
  · refine (hseq (w.heap.size + 1) (fun pre L => ∃ L0, L = (w.heap.size + 1, .loop (rec .ready none)) :: (w.heap.size, .deferred (some [])) :: L0 ∧ K pre L0) R _ W1 hat1 ⟨L, rfl, h0⟩ ?_ ?_).mono ?_
    · rintro pre L ⟨L0, rfl, hk⟩ e he
      exact List.mem_cons_of_mem _ (List.mem_cons_of_mem _ (hKb pre L0 hk e he))
    · rintro pre x R st L W hpre hat ⟨L0, rfl, hk⟩
      have hl := (hat.keep _ (List.mem_cons_self ..)).1
      have hy := run_yield (P := P) (args := encs x) hl (by rw [hrec]; exact hps x)
      rw [hrec] at hy
      refine ⟨fn, _, assign, body, hy, roundIn_of_wpIn hfn (wpIn_mono (hassign _ pre x R st [(w.heap.size + 1, .loop (rec .ready none)), (w.heap.size, .deferred (some []))] L0 W hpre hat hk) ?_)⟩
      rintro e a1 Wa hq
      cases e with
      | normal =>
        obtain ⟨L1, hata, hax⟩ := hq
        have hla := (hata.keep _ (List.mem_cons_self ..)).1
        refine ⟨_, run_beginRound hla (by rw [hrec]), wpIn_mono (hbody _ pre x R st [(w.heap.size + 1, .loop { rec .ready none with state := .busy }), (w.heap.size, .deferred (some []))] L1 a1 _ hpre (At.put (L := [(w.heap.size, .deferred (some []))] ++ L1) hok hata _) hax) ?_⟩
        rintro e a3 W3 hp
        cases e with
        | normal =>
          obtain ⟨L', hat3, hk3⟩ := hp
          have hl3 := (hat3.keep _ (List.mem_cons_self ..)).1
          have := run_endRound (P := P) none hl3
          rw [hrec] at this
          refine ⟨_, _, this, rfl, _, At.put (L := [(w.heap.size, .deferred (some []))] ++ L') hok hat3 _, L', ?_, hk3⟩
          rw [hrec]
          rfl
        | exit id => exact hp.elim
        | goto t => exact hp.elim
        | ret => exact hp.elim
        | panic ch => exact hp.elim
        | outgrown => exact hp.elim
      | exit id => exact hq.elim
      | goto t => exact hq.elim
      | ret => exact hq.elim
      | panic ch => exact hq.elim
      | outgrown => exact hq.elim
    · rintro e W2 ⟨⟨v, rfl⟩, R', L', hat', L0, rfl, hk⟩
      have hl := (hat'.keep _ (List.mem_cons_self ..)).1
      have := run_endLoop (P := P) hl (by rw [hrec]; simp)
      rw [hrec] at this
      exact ⟨none, _, this, hdone _ R' L0 _ ((hat'.put hok _).less (List.sublist_cons_self _ _)) hk⟩
end Go.Proofs.Ytbfeopakmjcapaa
