/-
  A region whose order Go leaves open, where more than one operation that acts may come next: each way is walked; no condition.
-/
import Derived.Test.YtbfeopakmjcapaaFlow
set_option linter.unusedVariables false
set_option linter.unusedSimpArgs false
set_option maxHeartbeats 4000000
set_option maxRecDepth 8000
namespace Go.Proofs.Ytbfeopakmjcapaa.Flow

/-- The ways through a region: what only looks; what acts, and the other ones that might have come instead. -/
inductive Tr (α : Type)
  | done
  | look (i : α) (r : Tr α)
  | act (i : α) (pend : List α) (r o : Tr α)
  | stop
deriving Inhabited

def Tr.map {α β : Type} (f : α → β) : Tr α → Tr β
  | .done => .done
  | .look i r => .look (f i) (r.map f)
  | .act i p r o => .act (f i) (p.map f) (r.map f) (o.map f)
  | .stop => .stop

section
variable {P : Program} {ops : Array Oper} {md : Region.Mode} {anc : Nat → Nat → Bool} {chain nc : Nat → Bool}

def wpTr (P : Program) (ops : Array Oper) (Q : Act → World → Prop) : Tr Nat → Act → World → Prop
  | .done, a, w => Q a w
  | .look i r, a, w => stOp P ops w i (fun a' => wpTr P ops Q r a' w) a
  | .act i pend r o, a, w => wpOp P ops bot i (fun a' w' => AllSame P ops pend a' w' ∧ wpTr P ops Q r a' w') a w ∧ wpTr P ops Q o a w
  | .stop, _, _ => True

def treeB (md : Region.Mode) (ops : Array Oper) (anc : Nat → Nat → Bool) (chain nc : Nat → Bool) : Tr Nat → Nat → Option (List Nat) → Array Bool → Bool
  | .done, n, none, listed => n == 0 && (Region.ready md ops listed).isEmpty
  | .look i r, n + 1, none, listed => (Region.ready md ops listed).contains i && !chain i && treeB md ops anc chain nc r n none (listed.setIfInBounds i true)
  | .act i pend r o, n + 1, todo, listed => (todo.getD (Region.ready md ops listed)).contains i && (Region.ready md ops listed).contains i &&
      ((List.range ops.size).all fun j => !relB anc chain nc ops.size (listed.setIfInBounds i true) j || pend.contains j) &&
      treeB md ops anc chain nc r n none (listed.setIfInBounds i true) && treeB md ops anc chain nc o (n + 1) (some ((todo.getD (Region.ready md ops listed)).filter (· != i))) listed
  | .stop, _, some [], _ => true
  | _, _, _, _ => false

theorem tree_sound {Q : Act → World → Prop} (F : Fit anc chain nc md ops) : ∀ (t : Tr Nat) (n : Nat) (listed : Array Bool) (a : Act) (w : World),
    listed.size = ops.size → Closed md ops listed → Inv anc chain nc P ops listed a w → wpTr P ops Q t a w →
    (treeB md ops anc chain nc t n none listed = true → wpAnyP anc chain nc P md ops Q n listed a w) ∧
    (∀ l, treeB md ops anc chain nc t n (some l) listed = true → ∀ i ∈ l, ∃ m, n = m + 1 ∧ wpOp P ops bot i (fun a' w' => Inv anc chain nc P ops (listed.setIfInBounds i true) a' w' ∧ wpAnyP anc chain nc P md ops Q m (listed.setIfInBounds i true) a' w') a w)
  | .done, n, listed, a, w, _, _, _, h => by
    refine ⟨fun hB => ?_, fun l hB => by simp [treeB] at hB⟩
    simp only [treeB, Bool.and_eq_true, beq_iff_eq] at hB
    obtain ⟨rfl, h2⟩ := hB
    exact ⟨by simpa using h2, h⟩
  | .look i r, n, listed, a, w, hs, hc, hI, h => by
    cases n with
    | zero => exact ⟨fun hB => by simp [treeB] at hB, fun l hB => by simp [treeB] at hB⟩
    | succ n =>
      refine ⟨fun hB => ?_, fun l hB => by simp [treeB] at hB⟩
      simp only [treeB, Bool.and_eq_true, Bool.not_eq_true'] at hB
      obtain ⟨⟨hr, hfl⟩, hB'⟩ := hB
      have hr' : i ∈ Region.ready md ops listed := by simpa using hr
      obtain ⟨_, oi, hoi, _⟩ := mem_ready.1 hr'
      obtain ⟨v, hy, hK⟩ := yieldsAt_of_stOp hoi h
      exact first F hoi hfl n listed a w v hc hr' hy hI
        ((tree_sound F r n _ _ w (by simpa using hs) (closed_set hc hr') (inv_float F hc hoi hfl hr' hy hI) hK).1 hB')
  | .act i pend r o, n, listed, a, w, hs, hc, hI, h => by
    cases n with
    | zero => exact ⟨fun hB => by simp [treeB] at hB, fun l hB => by simp [treeB] at hB⟩
    | succ n =>
      have key : ∀ todo : Option (List Nat), treeB md ops anc chain nc (.act i pend r o) (n + 1) todo listed = true → i ∈ Region.ready md ops listed ∧ ∀ j ∈ todo.getD (Region.ready md ops listed),
          wpOp P ops bot j (fun a' w' => Inv anc chain nc P ops (listed.setIfInBounds j true) a' w' ∧ wpAnyP anc chain nc P md ops Q n (listed.setIfInBounds j true) a' w') a w := by
        intro todo hB
        simp only [treeB, Bool.and_eq_true] at hB
        obtain ⟨⟨⟨⟨h1, h2⟩, hrel⟩, hB1⟩, hB2⟩ := hB
        have hr' : i ∈ Region.ready md ops listed := by simpa using h2
        refine ⟨hr', fun j hj => ?_⟩
        by_cases hji : j = i
        · subst hji
          refine wpOp_mono (fun a' w' h' => ?_) h.1
          have hI' : Inv anc chain nc P ops (listed.setIfInBounds j true) a' w' := by
            intro k ⟨hk, hn, hkc⟩
            have hlt : k < ops.size := by
              rcases Nat.lt_or_ge k (listed.setIfInBounds j true).size with h | h
              · simpa [hs] using h
              · simp [Array.getElem?_eq_none h] at hk
            have h1 := List.all_eq_true.1 hrel k (List.mem_range.2 hlt)
            simp only [Bool.or_eq_true, Bool.not_eq_true'] at h1
            rcases h1 with h1 | h1
            · exfalso
              have : relB anc chain nc ops.size (listed.setIfInBounds j true) k = true := by
                simp only [relB, Bool.and_eq_true, List.all_eq_true, Bool.or_eq_true, Bool.not_eq_true']
                refine ⟨⟨hk, hn⟩, fun k' _ => ?_⟩
                cases h1 : (listed.setIfInBounds j true).getD k' false with
                | false => exact .inl (.inl rfl)
                | true =>
                  cases h2 : chain k' with
                  | false => exact .inl (.inr rfl)
                  | true => exact .inr (hkc k' h1 h2)
              rw [this] at h1; cases h1
            · exact h'.1.mem k (by simpa using h1)
          exact ⟨hI', (tree_sound F r n _ a' w' (by simpa using hs) (closed_set hc hr') hI' h'.2).1 hB1⟩
        · obtain ⟨m, hm, h3⟩ := (tree_sound F o (n + 1) listed a w hs hc hI h.2).2 _ hB2 j (by simp [hj, hji])
          obtain rfl : n = m := by omega
          exact h3
      refine ⟨fun hB => ?_, fun l hB j hj => ⟨n, rfl, (key (some l) hB).2 j hj⟩⟩
      obtain ⟨h1, h2⟩ := key none hB
      exact ⟨fun h0 => (by rw [h0] at h1; cases h1), h2⟩
  | .stop, n, listed, a, w, _, _, _, h => by
    refine ⟨fun hB => by simp [treeB] at hB, fun l hB i hi => ?_⟩
    cases l with
    | nil => cases hi
    | cons x l => simp [treeB] at hB

/-- The ways, each step with its operation's text. -/
def wpFT (P : Program) (ops : Array Oper) (Q : Act → World → Prop) : Tr Oper → Act → World → Prop
  | .done, a, w => Q a w
  | .look o r, a, w => wpStill P ops w (fun a' => wpFT P ops Q r a' w) [o] a
  | .act o pend r x, a, w => Both (wpList P ops (Exit.then (fun a' w' => Both (SameAll P ops pend a' w') (wpFT P ops Q r a' w')) bot) [o] a w) (wpFT P ops Q x a w)
  | .stop, _, _ => True

def Tr.inB (n : Nat) : Tr Nat → Bool
  | .done => true
  | .look i r => decide (i < n) && r.inB n
  | .act i p r o => decide (i < n) && (p.all fun j => decide (j < n)) && r.inB n && o.inB n
  | .stop => true

theorem tree_of_text {Q : Act → World → Prop} : ∀ (t : Tr Nat) (a : Act) (w : World), t.inB ops.size = true → wpFT P ops Q (t.map fun i => ops.getD i default) a w → wpTr P ops Q t a w
  | .done, a, w, _, h => h
  | .stop, a, w, _, h => h
  | .look i r, a, w, hB, h => by
    simp only [Tr.inB, Bool.and_eq_true, decide_eq_true_eq] at hB
    have h2 : wpSteps P ops (fun a' w' => wpTr P ops Q r a' w') [(i, none)] a w := steps_of_fl [(i, none)] a w (by simpa using hB.1) (by
      simp only [textOf, List.map_cons, List.map_nil, Option.map_none, wpFl]
      simp only [Tr.map, wpFT] at h
      unfold wpStill at *
      split
      · rename_i hw; simp only [hw, if_true] at h
        exact Oper.still_mono (fun a' h' => tree_of_text r a' w hB.2 h') h
      · rename_i hw; simp only [hw] at h
        exact tree_of_text r _ w hB.2 h)
    simp only [wpSteps] at h2
    exact h2
  | .act i p r o, a, w, hB, h => by
    simp only [Tr.inB, Bool.and_eq_true, decide_eq_true_eq] at hB
    obtain ⟨⟨⟨h1, h2⟩, h3⟩, h4⟩ := hB
    simp only [Tr.map, wpFT] at h
    refine ⟨?_, tree_of_text o a w h4 h.2⟩
    have hst : wpSteps P ops (fun a' w' => wpFT P ops Q (r.map fun i => ops.getD i default) a' w') [(i, some p)] a w := steps_of_fl [(i, some p)] a w (by simpa using ⟨h1, by simpa using h2⟩) (by
      simp only [textOf, List.map_cons, List.map_nil, Option.map_some, wpFl]
      exact h.1)
    simp only [wpSteps] at hst
    exact wpOp_mono (fun a' w' h' => ⟨h'.1, tree_of_text r a' w' h3 h'.2⟩) hst

def forkB (md : Region.Mode) (ops : Array Oper) (masks : List Nat) (chain nc : Nat) (t : Tr Nat) : Bool :=
  Region.noSelect ops && pathB md ops masks && pairsB ops masks chain nc && decide (nc < 1 <<< ops.size) && t.inB ops.size &&
    treeB md ops (ancOf masks) chain.testBit nc.testBit t ops.size none (Array.replicate ops.size false)

theorem region_fork {id : Nat} {Q : Exit → Act → World → Prop} {a : Act} {w : World} {l : List Oper} (masks : List Nat) (chain nc : Nat) (t : Tr Nat)
    (hm : P.follows .mixedOrders = true) (hB : forkB .any l.toArray masks chain nc t = true)
    (h : wpFT P l.toArray (Q .normal) (t.map fun i => l.toArray.getD i default) a w.drew) : (Code.region id l.toArray true).wp P Q a w := by
  simp only [forkB, Bool.and_eq_true, decide_eq_true_eq] at hB
  obtain ⟨⟨⟨⟨⟨b1, b2⟩, b3⟩, b4⟩, hin⟩, hst⟩ := hB
  have F := fit_core b1 b2 b3 b4
  refine wp_region_any hm (wpAny_of_P (anc := ancOf masks) (chain := chain.testBit) (nc := nc.testBit) (Q := Q .normal) (fun _ _ h => h) _ _ _ _ ?_)
  refine (tree_sound F t _ _ a _ (by simp) (fun j oj _ hl => ?_) (fun j ⟨hj, _⟩ => ?_) (tree_of_text t a _ hin h)).1 hst
  · rw [getD_replicate_false] at hl; cases hl
  · rw [getD_replicate_false] at hj; cases hj

#print axioms region_fork
end
end Go.Proofs.Ytbfeopakmjcapaa.Flow
