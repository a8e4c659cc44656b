/-
  Ranges over functions that play with a machine that guesses: what serves every such range.
-/
import Derived.Test.YtbfeopakmjcapaaSpRow
import Derived.Test.YtbfeopakmjcapaaIter
import Derived.Shelf.Abstract
import Derived.Shelf.RegionOpen
import Derived.OwnWalkIn
import Derived.TacticsInMore
import Derived.LoopNIn
import Derived.LoopIn
set_option linter.unusedVariables false
set_option linter.unusedSimpArgs false
set_option maxHeartbeats 4000000
set_option maxRecDepth 8000
namespace Go.Proofs.Ytbfeopakmjcapaa.Sp
open Go.RowKit Go.Proofs.Ytbfeopakmjcapaa.Seq Go.Proofs.Ytbfeopakmjcapaa.Tso
attribute [local irreducible] wpStill wpList Calls CallsIn
attribute [local go_sem] Oper.semAt_some

theorem _root_.Go.Calls.namedIn {F : Fence} {n : Nat} {P : Program} {f : FuncId} {args : Array Value} {w : World} {Q : Ending → World → Prop} (h : ∀ wc, wc = w → CallsIn F n P f args wc Q) : CallsIn F n P f args w Q := h w rfl
abbrev SRp (SB : Nat) : SM → (Nat → Prop) → World → Prop := fun s R W => SR W R SB s
theorem srp_ok (SB : Nat) : RepOk (SRp SB) := ⟨fun h hf hn => SR.fr h hf hn, fun h => SR.lt h⟩
def boxes (BL BM SB : Nat) (a : Option Addr) (n c : Nat) : List (Nat × Obj) := [(BL, .cells #[.slice a n c] 27 (0, 0)), (BM, .cells #[.pointer (some ⟨SB, 0, none⟩)] 32 (0, 0))]
/-- A row that is owned, as objects that lie somewhere. -/
theorem own_rowO {w : World} {E : TypeId} {sz n cap : Nat} {R : Nat → Prop} {ao : Option Addr} {cs : List Value} (h : OwnAt w E sz R ao n cap cs) :
    ∃ L : List (Nat × Obj), L.length ≤ 1 ∧ (∀ e ∈ L, w.heap[e.1]? = some e.2 ∧ R e.1) ∧ ∀ w', (∀ e ∈ L, w'.heap[e.1]? = some e.2) → OwnAt w' E sz (fun k => ∃ e ∈ L, k = e.1) ao n cap cs := by
  obtain ⟨h1, h2, h3, h4⟩ := h
  rcases h4 with h | ⟨r, off, C, e, hr, hb, hs, ht⟩
  · exact ⟨[], Nat.zero_le _, fun e he => (by cases he), fun w' _ => ⟨h1, h2, h3, .inl h⟩⟩
  · exact ⟨[(r, .cells C E (0, 0))], Nat.le_refl _, fun e he => (by rw [List.mem_singleton] at he; subst he; exact ⟨hb, hr⟩), fun w' hw => ⟨h1, h2, h3, .inr ⟨r, off, C, e, ⟨_, List.mem_singleton_self _, rfl⟩, hw _ (List.mem_singleton_self _), hs, ht⟩⟩⟩

/-- append, for the walk within a fence. -/
theorem wpListIn_append_Own {F : Fence} {nF : Nat} {P : Program} (w : World) {ops : Array Oper} {rest : List Oper} {o : Oper} {a : Act} {Q : Exit → Act → World → Prop}
    (hg : o.guard = none) (s x : Operand) (t : TypeId) (hop : o.op = Op.call { callee := Callee.builtin Builtin.append, args := #[s, x], argTypes := #[t, t] })
    (e : TypeId) (i : TypeInfo) (z : Value) (size bytes : Nat) (h1 : P.underlying t = some (.slice e)) (h2 : P.info? e = some i) (h3 : i.zero = some z) (h4 : i.size = size) (h5 : i.bytes = bytes) (h6 : z.cells.size = size) (h7 : 0 < size)
    (R R2 : Nat → Prop) (ao : Option Addr) (n cap : Nat) (cs : List Value) (hs : a.eval s = .slice ao n cap) (hown : OwnAt w e size R ao n cap cs)
    (ax : Option Addr) (m c : Nat) (news : List Value) (hx : a.eval x = .slice ax m c) (hv : Vw w size R2 ax m news) (h1c : ∀ u ∈ news, u.oneCell' = true)
    (b1 : n + m ≤ maxLen) (b2 : (n + m) * bytes ≤ 140737488355328)
    (hK : ∀ ao' cap' w', OwnAt w' e size (fun k => R k ∨ w.heap.size ≤ k) ao' (n + m) cap' (cs ++ news) → Fr R w w' → wpListIn F nF P ops Q rest (a.put o.dst (.slice ao' (n + m) cap')) w') :
    wpListIn F nF P ops Q (o :: rest) a w := by
  refine wpListIn_plain hg fun K hK' => ?_
  obtain ⟨ao', cap', w', hrun, r1, r2⟩ := run_append_Own (P := P) w t o.type e i z size bytes h1 h2 h3 h4 h5 h6 h7 R R2 ao n cap cs hown ax m c news hv h1c b1 b2
  unfold Oper.wpIn
  refine ⟨by simp [Oper.about, hop, resolve, Target.leads, Sem.run_pure], ?_⟩
  rw [Oper.semAt_plain F _ _ (by rw [hop]; intro c hc'; cases hc')]
  simp [execOp, hop, resolve, invoke, builtin, hs, hx, hrun, Result.andThen]
  exact hK' _ _ (hK ao' cap' w' r1 r2)

/-- A block more of mine, ahead of those that I had. -/
theorem at_alloc {σ : Type} {Rp : σ → (Nat → Prop) → World → Prop} {w0 W : World} {R : Nat → Prop} {st : σ} {Lx L : List (Nat × Obj)} (hok : RepOk Rp) (h : At Rp w0 R st (Lx ++ L) W) (o : Obj) : At Rp w0 R st (Lx ++ ((W.heap.size, o) :: L)) (W.alloc o) := by
  have hf : Fr (fun _ => False) W (W.alloc o) := (Fr.refl _ W).alloc o
  have hnd := h.nodup
  rw [List.map_append, List.nodup_append] at hnd
  refine At.step (L1 := L) (S := fun _ => False) hok h hf (fun _ _ h => h.elim) ?_ ?_
  · simp only [List.map_cons, List.nodup_cons]
    refine ⟨fun hm => ?_, hnd.2.1⟩
    obtain ⟨e, he, hee⟩ := List.mem_map.1 hm
    have := h.lt (List.mem_append.2 (.inr he)); omega
  · intro e he
    rcases List.mem_cons.1 he with rfl | he
    · exact ⟨World.alloc_heap_new W o, .inr (Nat.le_refl _)⟩
    · exact ⟨(hf.block e.1 (h.lt (List.mem_append.2 (.inr he))) (fun h => h)).trans (h.keep e (List.mem_append.2 (.inr he))).1, .inl ⟨e, he, rfl⟩⟩

/-- What was collected is one more; a block of the round's own is forgotten. -/
theorem coll_end {σ : Type} {Rp : σ → (Nat → Prop) → World → Prop} {w0 W W' : World} {R : Nat → Prop} {st : σ} {Lx Lb Lr Lr' : List (Nat × Obj)} {OB DB : Nat} {od oo on : Obj} (hok : RepOk Rp) (h : At Rp w0 R st (Lx ++ ((DB, od) :: (OB, oo) :: (Lb ++ Lr))) W)
    (hf : Fr (fun z => z = OB ∨ ∃ e ∈ Lr, z = e.1) W W') (hob : W'.heap[OB]? = some on) (hlr : Lr'.length ≤ 1) (hr : ∀ e ∈ Lr', W'.heap[e.1]? = some e.2 ∧ ((∃ d ∈ Lr, e.1 = d.1) ∨ W.heap.size ≤ e.1)) : At Rp w0 R st (Lx ++ ((OB, on) :: (Lb ++ Lr'))) W' := by
  have hnd := h.nodup
  rw [List.map_append, List.nodup_append] at hnd
  have hn := hnd.2.1
  simp only [List.map_cons, List.nodup_cons, List.map_append, List.mem_cons, List.mem_append, not_or, List.nodup_append] at hn
  obtain ⟨⟨n1, n2, n3⟩, ⟨n4, n5⟩, n6, n7, n8⟩ := hn
  refine At.step (L1 := (DB, od) :: (OB, oo) :: (Lb ++ Lr)) hok h hf ?_ ?_ ?_
  · rintro z _ (rfl | ⟨e, he, rfl⟩)
    · exact ⟨_, List.mem_cons_of_mem _ (List.mem_cons_self ..), rfl⟩
    · exact ⟨e, List.mem_cons_of_mem _ (List.mem_cons_of_mem _ (List.mem_append.2 (.inr he))), rfl⟩
  · have key : ∀ e ∈ Lr', e.1 ≠ OB ∧ e.1 ∉ Lb.map (·.1) := by
      intro e he
      rcases (hr e he).2 with ⟨d, hd, hed⟩ | hge
      · exact ⟨fun e2 => n5 (by rw [← e2, hed]; exact List.mem_map.2 ⟨d, hd, rfl⟩), fun hm => n8 _ hm _ (List.mem_map.2 ⟨d, hd, rfl⟩) hed⟩
      · refine ⟨fun e2 => ?_, fun hm => ?_⟩
        · have := h.lt (e := (OB, oo)) (List.mem_append.2 (.inr (List.mem_cons_of_mem _ (List.mem_cons_self ..)))); dsimp only at this; omega
        · obtain ⟨b, hb, hbe⟩ := List.mem_map.1 hm
          have := h.lt (e := b) (List.mem_append.2 (.inr (List.mem_cons_of_mem _ (List.mem_cons_of_mem _ (List.mem_append.2 (.inl hb)))))); omega
    simp only [List.map_cons, List.nodup_cons, List.map_append, List.mem_append, not_or, List.nodup_append]
    refine ⟨⟨n4, fun hm => ?_⟩, n6, ?_, ?_⟩
    · obtain ⟨e, he, hee⟩ := List.mem_map.1 hm
      exact (key e he).1 hee
    · match Lr', hlr with
      | [], _ => exact List.nodup_nil
      | [e], _ => simp
    · intro a ha b hb hab
      obtain ⟨e, he, rfl⟩ := List.mem_map.1 hb
      exact (key e he).2 (hab ▸ ha)
  · intro e he
    rcases List.mem_cons.1 he with rfl | he
    · exact ⟨hob, .inl ⟨_, List.mem_cons_of_mem _ (List.mem_cons_self ..), rfl⟩⟩
    · rcases List.mem_append.1 he with he | he
      · have hm : e ∈ Lx ++ ((DB, od) :: (OB, oo) :: (Lb ++ Lr)) := List.mem_append.2 (.inr (List.mem_cons_of_mem _ (List.mem_cons_of_mem _ (List.mem_append.2 (.inl he)))))
        refine ⟨(hf.block e.1 (h.lt hm) ?_).trans (h.keep e hm).1, .inl ⟨e, List.mem_cons_of_mem _ (List.mem_cons_of_mem _ (List.mem_append.2 (.inl he))), rfl⟩⟩
        rintro (e2 | ⟨d, hd, e2⟩)
        · exact n4 (e2 ▸ List.mem_map.2 ⟨e, he, rfl⟩)
        · exact n8 _ (List.mem_map.2 ⟨e, he, rfl⟩) _ (List.mem_map.2 ⟨d, hd, rfl⟩) e2
      · obtain ⟨h1, h2⟩ := hr e he
        refine ⟨h1, ?_⟩
        rcases h2 with ⟨d, hd, e2⟩ | h2
        · exact .inl ⟨d, List.mem_cons_of_mem _ (List.mem_cons_of_mem _ (List.mem_append.2 (.inr hd))), e2.symm⟩
        · exact .inr h2
end Go.Proofs.Ytbfeopakmjcapaa.Sp
