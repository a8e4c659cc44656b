/-
  A region whose order Go leaves open, walked in one order: what only looks is done as soon as it may be, what acts is done where nothing else is left; no condition.
-/
import Derived.StillTailTactics
import Derived.KernelRfl
import Derived.Laws.World
set_option linter.unusedVariables false
set_option linter.unusedSimpArgs false
set_option maxHeartbeats 4000000
set_option maxRecDepth 8000
namespace Go.Proofs.YtfiebpcambdbaaaDoor.Flow
theorem q1 {α β : Type} {f : α → β} {a : α} {l : List α} : (a :: l).map f = f a :: l.map f := List.map_cons
theorem q2 {α β : Type} {f : α → β} : ([] : List α).map f = [] := List.map_nil
theorem q3 {α β : Type} {f : α → β} : (none : Option α).map f = none := rfl
theorem q4 {α β : Type} {f : α → β} {a : α} : (some a).map f = some (f a) := rfl
theorem q5 {α : Type} {xs : Array α} {i : Nat} {d : α} : xs.getD i d = xs[i]?.getD d := Array.getD_eq_getD_getElem?
theorem q6 {α : Type} {l : List α} {i : Nat} : l.toArray[i]? = l[i]? := List.getElem?_toArray
theorem q7 {α : Type} {a : α} {l : List α} : (a :: l)[0]? = some a := List.getElem?_cons_zero
theorem q8 {α : Type} {a : α} {l : List α} {i : Nat} : (a :: l)[i + 1]? = l[i]? := List.getElem?_cons_succ
theorem q9 {α : Type} {a d : α} : (some a).getD d = a := Option.getD_some

section
variable {P : Program} {ops : Array Oper} {md : Region.Mode}

/-- No exit but the normal one. -/
def bot : Exit → Act → World → Prop := fun _ _ _ => False

/-- A slot holds a value (where there is such a slot). -/
def Holds (a : Act) (dst : Option Tmp) (v : Value) : Prop := ∀ d, dst = some d → d < a.tmps.size → a.tmps.getD d undef = v

theorem Holds.put {a : Act} {dst : Option Tmp} {v : Value} (h : Holds a dst v) : a.put dst v = a := by
  cases dst with
  | none => rfl
  | some d =>
    simp only [Act.put]
    congr 1
    apply Array.ext_getElem?
    intro i
    by_cases hi : d = i
    · subst hi
      by_cases hd : d < a.tmps.size
      · have := h d rfl hd
        simp [hd] at this ⊢
        exact this.symm
      · simp [hd]
    · simp [Array.getElem?_setIfInBounds_ne hi]

theorem holds_put (a : Act) (dst : Option Tmp) (v : Value) : Holds (a.put dst v) dst v := by
  intro d hd hs
  subst hd
  unfold Act.put at *
  simp only [Array.size_setIfInBounds] at hs
  simp [hs]

theorem holds_put_ne (a : Act) (d e : Option Tmp) (u v : Value) (h : ∀ x, d = some x → e ≠ some x) : Holds (a.put d u) e v ↔ Holds a e v := by
  cases d with
  | none => exact Iff.rfl
  | some d =>
    cases e with
    | none => simp [Holds]
    | some e =>
      have hne : d ≠ e := fun he => h d rfl (he ▸ rfl)
      simp [Holds, Act.put, Array.getElem?_setIfInBounds_ne hne]

/-- Operation j, done again, would give what its slot holds, and change nothing. -/
def SameAt (P : Program) (ops : Array Oper) (j : Nat) (a : Act) (w : World) : Prop :=
  match ops[j]? with
  | none => True
  | some o => ∃ v, YieldsAt P ops w o v a ∧ Holds a o.dst v

/-- An operation that looks at no memory. -/
def constB (o : Oper) : Bool :=
  match o.op with
  | .move _ | .assign _ | .extract .. | .pick .. => true
  | _ => false

theorem const_run {o : Oper} (h : constB o = true) {ρ : Operand → Value} {w w1 : World} {x : Next} (hr : (execOp ρ o).run P w = .ok x w1) :
    w1 = w ∧ (∃ v, x = .value v) ∧ ∀ w', (execOp ρ o).run P w' = .ok x w' := by
  obtain ⟨dst, op, type, pos, after, guard⟩ := o
  cases op <;> simp only [constB] at h <;> try (cases h; done)
  case move x' => simp only [execOp, pure, Sem.run] at hr ⊢; injection hr with h1 h2; subst h1; subst h2; exact ⟨rfl, ⟨_, rfl⟩, fun _ => rfl⟩
  case assign x' => simp only [execOp, pure, Sem.run] at hr ⊢; injection hr with h1 h2; subst h1; subst h2; exact ⟨rfl, ⟨_, rfl⟩, fun _ => rfl⟩
  case pick c x' y' =>
    simp only [execOp] at hr ⊢
    cases hc : ρ c <;> simp [hc, asBool, stuck, bind, Sem.bind, pure] at hr ⊢
    obtain ⟨h1, h2⟩ := hr
    exact ⟨h2.symm, ⟨_, h1.symm⟩, h1⟩
  case extract t i =>
    simp only [execOp, Instr.extract] at hr ⊢
    cases hc : ρ t <;> simp [hc, stuck, bind, Sem.bind, pure] at hr ⊢
    rename_i vs
    cases hv : vs[i]? <;> simp [hv, Sem.bind] at hr ⊢
    obtain ⟨h1, h2⟩ := hr
    exact ⟨h2.symm, ⟨_, h1.symm⟩, h1⟩

/-- An operation that is done under another frame which agrees where it looks. -/
theorem wpOp_putK {j : Nat} {oi oj : Oper} {v : Value} (hj : ops[j]? = some oj) (hap : oi.apart ops oj = true)
    (hsi : ∀ cs b, oi.op ≠ .select cs b) (hsj : ∀ cs b, oj.op ≠ .select cs b) {K : Act → World → Prop} {a : Act} {w : World}
    (h : wpOp P ops bot j K (a.put oi.dst v) w) :
    wpOp P ops bot j (fun a' w' => (execOp a'.eval oi = execOp a.eval oi ∧ Region.wanted oi (yielded ops a'.tmps) = Region.wanted oi (yielded ops a.tmps)) ∧ K (a'.put oi.dst v) w') a w := by
  obtain ⟨h1, h2, h3⟩ := Oper.apart_spec hap
  have keep : ∀ u, execOp (a.put oj.dst u).eval oi = execOp a.eval oi ∧ Region.wanted oi (yielded ops (a.put oj.dst u).tmps) = Region.wanted oi (yielded ops a.tmps) := fun u =>
    ⟨execOp_put oi hsi a oj.dst u h3, wanted_put oi a oj.dst u h3⟩
  have keepD : ∀ d u, execOp (({ a with defers := d :: a.defers } : Act).put oj.dst u).eval oi = execOp a.eval oi ∧ Region.wanted oi (yielded ops (({ a with defers := d :: a.defers } : Act).put oj.dst u).tmps) = Region.wanted oi (yielded ops a.tmps) := fun d u =>
    ⟨execOp_put oi hsi _ oj.dst u h3, wanted_put oi _ oj.dst u h3⟩
  unfold wpOp at *
  simp only [hj] at *
  rw [wanted_put oj a oi.dst v h1] at h
  split
  · rename_i hw
    simp only [hw, if_true] at h
    rcases h with h | ⟨_, _, _, hl⟩
    case inr => exact hl.elim
    refine .inl ?_
    unfold Oper.wp at *
    rw [execOp_put oj hsj a oi.dst v h1] at h
    generalize (execOp a.eval oj).run P w = r at *
    cases r with
    | ok n w' =>
      cases n <;> simp only [Oper.upon] at h ⊢
      case value u => exact ⟨keep u, by rw [← Act.put_comm a v u h2]; exact h⟩
      case skip => exact ⟨keep _, by rw [← Act.put_comm a v undef h2]; exact h⟩
      case defer d =>
        refine ⟨keepD d _, ?_⟩
        rw [← Act.put_comm _ v undef h2, ← Act.put_defers]
        exact h
      case enter f args =>
        refine Calls.mono h fun e w'' he => ?_
        cases e with
        | returned u => exact ⟨keep u, by rw [← Act.put_comm a v u h2]; exact he⟩
        | panicked c => exact he
        | outgrown => exact he
      case row row args => exact Rows.mono h fun u w'' he => ⟨keep u, by rw [← Act.put_comm a v u h2]; exact he⟩
    | halt x w' => cases x <;> simp only [Oper.upon] at h ⊢ <;> exact h
  · rename_i hw
    simp only [hw] at h
    exact ⟨keep _, by rw [← Act.put_comm a v undef h2]; exact h⟩

theorem yields_wpOp {i : Nat} {o : Oper} {v : Value} {a : Act} {w : World} (hi : ops[i]? = some o) (hy : YieldsAt P ops w o v a) {K : Act → World → Prop} (h : K (a.put o.dst v) w) : wpOp P ops bot i K a w :=
  wpOp_of_stOp (K := fun a' => K a' w) (fun _ h => h) (hy.stOp hi h)

theorem yields_const {o : Oper} {v : Value} {a a' : Act} {w w' : World} (hc : constB o = true) (hy : YieldsAt P ops w o v a)
    (he : execOp a'.eval o = execOp a.eval o) (hw : Region.wanted o (yielded ops a'.tmps) = Region.wanted o (yielded ops a.tmps)) : YieldsAt P ops w' o v a' := by
  unfold YieldsAt at *
  rw [he, hw]
  rcases hy with ⟨h1, h2 | ⟨h2, rfl⟩ | ⟨f, args, h2, h3⟩⟩ | h2
  · exact .inl ⟨h1, .inl ((const_run hc h2).2.2 w')⟩
  · obtain ⟨_, ⟨x, hx⟩, _⟩ := const_run hc h2
    cases hx
  · obtain ⟨_, ⟨x, hx⟩, _⟩ := const_run hc h2
    cases hx
  · exact .inr h2

variable (anc : Nat → Nat → Bool) (chain nc : Nat → Bool)

def Rel (listed : Array Bool) (j : Nat) : Prop := listed.getD j false = true ∧ nc j = true ∧ ∀ k, listed.getD k false = true → chain k = true → anc j k = false
def Inv (P : Program) (ops : Array Oper) (listed : Array Bool) (a : Act) (w : World) : Prop := ∀ j, Rel anc chain nc listed j → SameAt P ops j a w

def wpAnyP (P : Program) (md : Region.Mode) (ops : Array Oper) (Q : Act → World → Prop) : Nat → Array Bool → Act → World → Prop
  | 0, listed, a, w => Region.ready md ops listed = [] ∧ Q a w
  | fuel + 1, listed, a, w =>
    (Region.ready md ops listed = [] → Q a w) ∧
    ∀ i ∈ Region.ready md ops listed, wpOp P ops bot i (fun a' w' => Inv anc chain nc P ops (listed.setIfInBounds i true) a' w' ∧ wpAnyP P md ops Q fuel (listed.setIfInBounds i true) a' w') a w

/-- What a look over the region's text shows. -/
structure Fit (md : Region.Mode) (ops : Array Oper) : Prop where
  sel : ∀ (j : Nat) (o : Oper) cs b, ops[j]? = some o → o.op ≠ .select cs b
  path : ∀ i j, anc i j = true → ∃ oj, ops[j]? = some oj ∧ ∃ e ∈ oj.after, Region.binds md e = true ∧ e.on < j ∧ (e.on = i ∨ anc i e.on = true)
  kept : ∀ (j : Nat) (oj : Oper) (k : Nat) (ok : Oper), ops[j]? = some oj → ops[k]? = some ok → nc j = true → k ≠ j → anc k j = true ∨ ∀ d, ok.dst = some d → d ∉ oj.looksAt ops ∧ oj.dst ≠ some d
  free : ∀ (i : Nat) (oi : Oper) (j : Nat) (oj : Oper), ops[i]? = some oi → ops[j]? = some oj → chain i = false → j ≠ i → anc i j = true ∨ anc j i = true ∨ oi.apart ops oj = true
  self : ∀ (i : Nat) (oi : Oper), ops[i]? = some oi → chain i = false → ∀ d, oi.dst = some d → d ∉ oi.looksAt ops
  kind : ∀ (i : Nat) (oi : Oper), ops[i]? = some oi → chain i = false → nc i = true ∨ constB oi = true
  apart : ∀ i, nc i = true → chain i = false

def Closed (md : Region.Mode) (ops : Array Oper) (listed : Array Bool) : Prop :=
  ∀ (j : Nat) (oj : Oper), ops[j]? = some oj → listed.getD j false = true → ∀ e ∈ oj.after, Region.binds md e = true → listed.getD e.on false = true

variable {anc chain nc}

theorem not_anc (F : Fit anc chain nc md ops) {listed : Array Bool} (hc : Closed md ops listed) {i : Nat} (hi : listed.getD i false = false) :
    ∀ (j : Nat), (∀ oj, ops[j]? = some oj → ∀ e ∈ oj.after, Region.binds md e = true → listed.getD e.on false = true) → anc i j = false := by
  intro j
  induction j using Nat.strongRecOn with
  | _ j ih =>
    intro hd
    cases ha : anc i j with
    | false => rfl
    | true =>
      obtain ⟨oj, hoj, e, he, hb, hlt, h⟩ := F.path i j ha
      have hl := hd oj hoj e he hb
      rcases h with h | h
      · rw [h, hi] at hl; cases hl
      · have := ih e.on hlt (fun ok hok e' he' hb' => hc e.on ok hok hl e' he' hb')
        rw [h] at this; cases this

theorem closed_set {listed : Array Bool} (hc : Closed md ops listed) {i : Nat} (hi : i ∈ Region.ready md ops listed) : Closed md ops (listed.setIfInBounds i true) := by
  obtain ⟨_, oi, hoi, hall⟩ := mem_ready.1 hi
  intro j oj hj hl e he hb
  by_cases hij : i = j
  · subst hij
    have : oj = oi := Option.some.inj (hj.symm.trans hoi)
    subst this
    exact getD_set_true (hall e he hb)
  · rw [getD_set_ne false hij] at hl
    exact getD_set_true (hc j oj hj hl e he hb)

theorem yieldsAt_put {o : Oper} (hs : ∀ cs b, o.op ≠ .select cs b) {a : Act} {dst : Option Tmp} {u v : Value} {w : World} (h : ∀ d, dst = some d → d ∉ o.looksAt ops) :
    YieldsAt P ops w o v (a.put dst u) ↔ YieldsAt P ops w o v a := by
  unfold YieldsAt
  rw [execOp_put o hs a dst u h, wanted_put o a dst u h]

theorem sameAt_put {j : Nat} {a : Act} {dst : Option Tmp} {u : Value} {w : World} (hs : ∀ (o : Oper) cs b, ops[j]? = some o → o.op ≠ .select cs b)
    (h : ∀ o, ops[j]? = some o → ∀ d, dst = some d → d ∉ o.looksAt ops ∧ o.dst ≠ some d) : SameAt P ops j (a.put dst u) w ↔ SameAt P ops j a w := by
  unfold SameAt
  cases ho : ops[j]? with
  | none => rfl
  | some o =>
    dsimp only
    simp only [yieldsAt_put (hs o · · ho) (fun d hd => (h o ho d hd).1), holds_put_ne a dst o.dst u _ (fun x hx => (h o ho x hx).2)]

theorem false_of {listed : Array Bool} {i : Nat} (h : listed.getD i true = false) : listed.getD i false = false := by
  rcases Nat.lt_or_ge i listed.size with h' | h'
  · simp [h'] at h ⊢; exact h
  · simp [Array.getElem?_eq_none h'] at h

theorem listed_set {listed : Array Bool} {i j : Nat} (h : (listed.setIfInBounds i true).getD j false = true) : j = i ∨ listed.getD j false = true := by
  by_cases hij : i = j
  · exact .inl hij.symm
  · rw [getD_set_ne false hij] at h; exact .inr h

theorem same_listed (F : Fit anc chain nc md ops) {listed : Array Bool} (hc : Closed md ops listed) {i j : Nat} {oi : Oper} (hi : ops[i]? = some oi) (hun : listed.getD i false = false)
    (hj : listed.getD j false = true) (hn : nc j = true) (a : Act) (v : Value) (w : World) : SameAt P ops j (a.put oi.dst v) w ↔ SameAt P ops j a w := by
  refine sameAt_put (fun o cs b ho => F.sel j o cs b ho) (fun oj hoj d hd => ?_)
  have hne : i ≠ j := fun h => by subst h; rw [hun] at hj; cases hj
  have ha : anc i j = false := not_anc F hc hun j (fun o ho e he hb => hc j o ho hj e he hb)
  rcases F.kept j oj i oi hoj hi hn hne with h | h
  · rw [h] at ha; cases ha
  · exact h d hd

theorem inv_float (F : Fit anc chain nc md ops) {listed : Array Bool} {i : Nat} {oi : Oper} {v : Value} {a : Act} {w : World} (hc : Closed md ops listed) (hi : ops[i]? = some oi) (hfl : chain i = false)
    (hr : i ∈ Region.ready md ops listed) (hy : YieldsAt P ops w oi v a) (hI : Inv anc chain nc P ops listed a w) :
    Inv anc chain nc P ops (listed.setIfInBounds i true) (a.put oi.dst v) w := by
  intro j ⟨hj, hn, hk⟩
  have hun := false_of (mem_ready.1 hr).1
  by_cases hji : j = i
  · subst hji
    unfold SameAt
    rw [hi]
    exact ⟨v, (yieldsAt_put (fun cs b => F.sel j oi cs b hi) (F.self j oi hi hfl)).2 hy, holds_put a oi.dst v⟩
  · have hj' := (listed_set hj).resolve_left hji
    exact (same_listed F hc hi hun hj' hn a v w).2 (hI j ⟨hj', hn, fun k hkl hkc => hk k (getD_set_true hkl) hkc⟩)

/-- What only looks may be done first. -/
theorem first {Q : Act → World → Prop} (F : Fit anc chain nc md ops) {i : Nat} {oi : Oper} (hi : ops[i]? = some oi) (hfl : chain i = false) :
    ∀ (fuel : Nat) (listed : Array Bool) (a : Act) (w : World) (v : Value), Closed md ops listed → i ∈ Region.ready md ops listed → YieldsAt P ops w oi v a → Inv anc chain nc P ops listed a w →
      wpAnyP anc chain nc P md ops Q fuel (listed.setIfInBounds i true) (a.put oi.dst v) w → wpAnyP anc chain nc P md ops Q (fuel + 1) listed a w := by
  intro fuel
  induction fuel with
  | zero =>
    intro listed a w v hc hr hy hI H
    refine ⟨fun h => (by rw [h] at hr; cases hr), fun j hj => ?_⟩
    by_cases hji : j = i
    · subst hji
      exact yields_wpOp hi hy ⟨inv_float F hc hi hfl hr hy hI, H⟩
    · have := ready_mono hj hji
      rw [H.1] at this
      cases this
  | succ fuel ih =>
    intro listed a w v hc hr hy hI H
    refine ⟨fun h => (by rw [h] at hr; cases hr), fun j hj => ?_⟩
    by_cases hji : j = i
    · subst hji
      exact yields_wpOp hi hy ⟨inv_float F hc hi hfl hr hy hI, H⟩
    · have h1 := H.2 j (ready_mono hj hji)
      obtain ⟨hjun, oj, hoj, hall⟩ := mem_ready.1 hj
      obtain ⟨hiun, oi', hoi', halli⟩ := mem_ready.1 hr
      have hijA : anc i j = false := not_anc F hc (false_of hiun) j (fun o ho e he hb => by
        have : o = oj := Option.some.inj (ho.symm.trans hoj)
        subst this; exact hall e he hb)
      have hjiA : anc j i = false := not_anc F hc (false_of hjun) i (fun o ho e he hb => by
        have : o = oi' := Option.some.inj (ho.symm.trans hoi')
        subst this; exact halli e he hb)
      have hap : oi.apart ops oj = true := by
        rcases F.free i oi j oj hi hoj hfl hji with h | h | h
        · rw [h] at hijA; cases hijA
        · rw [h] at hjiA; cases hjiA
        · exact h
      have h2 := wpOp_putK hoj hap (fun cs b => F.sel i oi cs b hi) (fun cs b => F.sel j oj cs b hoj) h1
      refine wpOp_mono (fun a' w' h3 => ?_) h2
      obtain ⟨⟨he, hw⟩, hI', H'⟩ := h3
      have hcj := closed_set hc hj
      have hrj : i ∈ Region.ready md ops (listed.setIfInBounds j true) := ready_mono hr (Ne.symm hji)
      have hiun' := false_of (mem_ready.1 hrj).1
      have hI2 : Inv anc chain nc P ops (listed.setIfInBounds j true) a' w' := by
        intro k ⟨hk, hn, hkc⟩
        refine (same_listed F hcj hi hiun' hk hn a' v w').1 (hI' k ⟨?_, hn, fun k' hk' hck' => ?_⟩)
        · rw [Array.setIfInBounds_comm _ _ (Ne.symm hji)]; exact getD_set_true hk
        · rw [Array.setIfInBounds_comm _ _ (Ne.symm hji)] at hk'
          rcases listed_set hk' with rfl | h
          · rw [hfl] at hck'; cases hck'
          · exact hkc k' h hck'
      refine ⟨hI2, ?_⟩
      rw [Array.setIfInBounds_comm _ _ (Ne.symm hji)] at H'
      rcases F.kind i oi hi hfl with hn | hcst
      · -- it looks at memory: what is done ahead of it lets that be
        have hself : ∀ d, oi.dst = some d → d ∉ oi.looksAt ops := F.self i oi hi hfl
        by_cases hch : ∃ k, (listed.setIfInBounds j true).getD k false = true ∧ chain k = true ∧ anc i k = true
        · obtain ⟨k, hk, _, hka⟩ := hch
          have := not_anc F hcj hiun' k (fun o ho e he hb => hcj k o ho hk e he hb)
          rw [hka] at this; cases this
        · have hS := hI' i ⟨by
            have hlt : i < listed.size := by
              rcases Nat.lt_or_ge i listed.size with h | h
              · exact h
              · simp [Array.getElem?_eq_none h] at hiun
            simp [hlt, Array.getElem_setIfInBounds], hn, fun k hk hkc => by
            cases hka : anc i k with
            | false => rfl
            | true =>
              rw [Array.setIfInBounds_comm _ _ (Ne.symm hji)] at hk
              rcases listed_set hk with rfl | h
              · rw [hfl] at hkc; cases hkc
              · exact absurd ⟨k, h, hkc, hka⟩ hch⟩
          unfold SameAt at hS
          rw [hi] at hS
          obtain ⟨v2, hy2, hh⟩ := hS
          have hy3 := (yieldsAt_put (fun cs b => F.sel i oi cs b hi) hself).1 hy2
          refine ih _ a' w' v2 hcj hrj hy3 hI2 ?_
          have e : a'.put oi.dst v2 = a'.put oi.dst v := by
            have h4 : (a'.put oi.dst v).put oi.dst v2 = a'.put oi.dst v := hh.put
            rw [← h4]
            cases hd : oi.dst with
            | none => rfl
            | some d => simp [Act.put]
          rw [e]; exact H'
      · exact ih _ a' w' v hcj hrj (yields_const hcst hy he hw) hI2 H'

def AllSame (P : Program) (ops : Array Oper) : List Nat → Act → World → Prop
  | [], _, _ => True
  | j :: r, a, w => SameAt P ops j a w ∧ AllSame P ops r a w

theorem AllSame.mem : ∀ {l : List Nat} {a : Act} {w : World}, AllSame P ops l a w → ∀ j ∈ l, SameAt P ops j a w
  | [], _, _, _, j, hj => by cases hj
  | i :: r, _, _, h, j, hj => by
    cases hj with
    | head => exact h.1
    | tail _ hm => exact AllSame.mem h.2 j hm

/-- The steps, by number. -/
def wpSteps (P : Program) (ops : Array Oper) (Q : Act → World → Prop) : List (Nat × Option (List Nat)) → Act → World → Prop
  | [], a, w => Q a w
  | (i, none) :: rest, a, w => stOp P ops w i (fun a' => wpSteps P ops Q rest a' w) a
  | (i, some pend) :: rest, a, w => wpOp P ops bot i (fun a' w' => AllSame P ops pend a' w' ∧ wpSteps P ops Q rest a' w') a w

def relB (anc : Nat → Nat → Bool) (chain nc : Nat → Bool) (n : Nat) (listed : Array Bool) (j : Nat) : Bool :=
  listed.getD j false && nc j && (List.range n).all fun k => !listed.getD k false || !chain k || !anc j k

def stepsB (md : Region.Mode) (ops : Array Oper) (anc : Nat → Nat → Bool) (chain nc : Nat → Bool) : List (Nat × Option (List Nat)) → Array Bool → Bool
  | [], listed => (Region.ready md ops listed).isEmpty
  | (i, none) :: rest, listed => (Region.ready md ops listed).contains i && !chain i && stepsB md ops anc chain nc rest (listed.setIfInBounds i true)
  | (i, some pend) :: rest, listed => decide (Region.ready md ops listed = [i]) && chain i &&
      ((List.range ops.size).all fun j => !relB anc chain nc ops.size (listed.setIfInBounds i true) j || pend.contains j) && stepsB md ops anc chain nc rest (listed.setIfInBounds i true)

theorem steps_sound {Q : Act → World → Prop} (F : Fit anc chain nc md ops) : ∀ (steps : List (Nat × Option (List Nat))) (listed : Array Bool) (a : Act) (w : World),
    listed.size = ops.size → Closed md ops listed → Inv anc chain nc P ops listed a w → stepsB md ops anc chain nc steps listed = true → wpSteps P ops Q steps a w →
    wpAnyP anc chain nc P md ops Q steps.length listed a w
  | [], listed, a, w, _, _, _, hB, h => ⟨by simpa [stepsB] using hB, h⟩
  | (i, none) :: rest, listed, a, w, hs, hc, hI, hB, h => by
    simp only [stepsB, Bool.and_eq_true, Bool.not_eq_true'] at hB
    obtain ⟨⟨hr, hfl⟩, hB'⟩ := hB
    have hr' : i ∈ Region.ready md ops listed := by simpa using hr
    obtain ⟨_, oi, hoi, _⟩ := mem_ready.1 hr'
    obtain ⟨v, hy, hK⟩ := yieldsAt_of_stOp hoi h
    exact first F hoi hfl rest.length listed a w v hc hr' hy hI
      (steps_sound F rest _ _ w (by simpa using hs) (closed_set hc hr') (inv_float F hc hoi hfl hr' hy hI) hB' hK)
  | (i, some pend) :: rest, listed, a, w, hs, hc, hI, hB, h => by
    simp only [stepsB, Bool.and_eq_true, decide_eq_true_eq] at hB
    obtain ⟨⟨⟨hr, hch⟩, hrel⟩, hB'⟩ := hB
    refine ⟨fun h0 => (by rw [hr] at h0; cases h0), fun j hj => ?_⟩
    have hji : j = i := by rw [hr] at hj; simpa using hj
    subst hji
    refine wpOp_mono (fun a' w' h' => ?_) h
    have hI' : Inv anc chain nc P ops (listed.setIfInBounds j true) a' w' := by
      intro k ⟨hk, hn, hkc⟩
      have hlt : k < ops.size := by
        rcases Nat.lt_or_ge k (listed.setIfInBounds j true).size with h | h
        · simpa [hs] using h
        · simp [Array.getElem?_eq_none h] at hk
      have h1 := List.all_eq_true.1 hrel k (List.mem_range.2 hlt)
      simp only [Bool.or_eq_true, Bool.not_eq_true'] at h1
      rcases h1 with h1 | h1
      · exfalso
        have : relB anc chain nc ops.size (listed.setIfInBounds j true) k = true := by
          simp only [relB, Bool.and_eq_true, List.all_eq_true, Bool.or_eq_true, Bool.not_eq_true']
          refine ⟨⟨hk, hn⟩, fun k' _ => ?_⟩
          cases h1 : (listed.setIfInBounds j true).getD k' false with
          | false => exact .inl (.inl rfl)
          | true =>
            cases h2 : chain k' with
            | false => exact .inl (.inr rfl)
            | true => exact .inr (hkc k' h1 h2)
        rw [this] at h1; cases h1
      · exact h'.1.mem k (by simpa using h1)
    exact ⟨hI', steps_sound F rest _ a' w' (by simpa using hs) (closed_set hc hj) hI' hB' h'.2⟩

theorem wpOp_bot {Q : Exit → Act → World → Prop} {i : Nat} {K K' : Act → World → Prop} {a : Act} {w : World} (hk : ∀ a w, K a w → K' a w) (h : wpOp P ops bot i K a w) : wpOp P ops Q i K' a w := by
  unfold wpOp at *
  split
  · rename_i ho; simp only [ho] at h; exact hk _ _ h
  · rename_i o ho
    simp only [ho] at h
    split
    · rename_i hw
      simp only [hw, if_true] at h
      rcases h with h | ⟨_, _, _, hl⟩
      case inr => exact hl.elim
      refine .inl ?_
      unfold Oper.wp at *
      generalize (execOp a.eval o).run P w = r at *
      cases r with
      | ok n w' =>
        cases n <;> simp only [Oper.upon] at h ⊢ <;> first
          | exact hk _ _ h
          | exact Calls.mono h (fun e w'' he => by cases e <;> first | exact hk _ _ he | exact he.elim | (obtain ⟨_, _, he⟩ := he; exact he.elim))
          | exact Rows.mono h (fun _ _ he => hk _ _ he)
      | halt x w' => cases x <;> simp only [Oper.upon, bot] at h
    · rename_i hw; simp only [hw] at h; exact hk _ _ h

theorem wpAny_of_P {Q : Act → World → Prop} {Q' : Exit → Act → World → Prop} (hQ : ∀ a w, Q a w → Q' .normal a w) : ∀ (fuel : Nat) (listed : Array Bool) (a : Act) (w : World),
    wpAnyP anc chain nc P md ops Q fuel listed a w → wpAny P md ops Q' fuel listed a w
  | 0, _, _, _, h => ⟨h.1, hQ _ _ h.2⟩
  | fuel + 1, _, _, _, h => ⟨fun h0 => hQ _ _ (h.1 h0), fun i hi => wpOp_bot (fun a' w' h' => wpAny_of_P hQ fuel _ a' w' h'.2) (h.2 i hi)⟩

/-- An operation, done again, would give what its slot holds, and change nothing. -/
def SameO (P : Program) (ops : Array Oper) (o : Oper) (a : Act) (w : World) : Prop := ∃ v, YieldsAt P ops w o v a ∧ Holds a o.dst v

/-- Two things, of which neither is looked into by the walk's other steps. -/
structure Both (p q : Prop) : Prop where
  fst : p
  snd : q

def SameAll (P : Program) (ops : Array Oper) : List Oper → Act → World → Prop
  | [], _, _ => True
  | o :: r, a, w => Both (SameO P ops o a w) (SameAll P ops r a w)

theorem same_mk {o : Oper} {a : Act} {w : World} {v : Value} {d : Tmp} (hw : Region.wanted o (yielded ops a.tmps) = true) (hd : o.dst = some d) (hv : a.tmps.getD d undef = v)
    (hr : (execOp a.eval o).run P w = .ok (.value v) w) : SameO P ops o a w :=
  ⟨v, .inl ⟨hw, .inl hr⟩, fun d' hd' _ => by rw [hd] at hd'; cases hd'; exact hv⟩

theorem same_un {o : Oper} {a : Act} {w : World} {d : Tmp} (hw : Region.wanted o (yielded ops a.tmps) = false) (hd : o.dst = some d) (hv : a.tmps.getD d undef = undef) : SameO P ops o a w :=
  ⟨undef, .inr ⟨hw, rfl⟩, fun d' hd' _ => by rw [hd] at hd'; cases hd'; exact hv⟩

theorem all_of_same : ∀ {l : List Nat} {a : Act} {w : World}, SameAll P ops (l.map fun j => ops.getD j default) a w → (∀ j ∈ l, j < ops.size) → AllSame P ops l a w
  | [], _, _, _, _ => trivial
  | j :: r, a, w, h, hl => by
    refine ⟨?_, all_of_same h.2 (fun k hk => hl k (by simp [hk]))⟩
    have hj : j < ops.size := hl j (by simp)
    unfold SameAt
    have h1 := h.1
    simp only [Array.getD, hj, dite_true] at h1
    simp only [hj, Array.getElem?_eq_getElem]
    exact h1

/-- The steps, each with its operation's text. -/
def wpFl (P : Program) (ops : Array Oper) (Q : Act → World → Prop) : List (Oper × Option (List Oper)) → Act → World → Prop
  | [], a, w => Q a w
  | (o, none) :: rest, a, w => wpStill P ops w (fun a' => wpFl P ops Q rest a' w) [o] a
  | (o, some pend) :: rest, a, w => wpList P ops (Exit.then (fun a' w' => Both (SameAll P ops pend a' w') (wpFl P ops Q rest a' w')) bot) [o] a w

def textOf (ops : Array Oper) (steps : List (Nat × Option (List Nat))) : List (Oper × Option (List Oper)) :=
  steps.map fun s => (ops.getD s.1 default, s.2.map (·.map fun j => ops.getD j default))

theorem steps_of_fl {Q : Act → World → Prop} : ∀ (steps : List (Nat × Option (List Nat))) (a : Act) (w : World), (∀ s ∈ steps, s.1 < ops.size ∧ ∀ p, s.2 = some p → ∀ j ∈ p, j < ops.size) →
    wpFl P ops Q (textOf ops steps) a w → wpSteps P ops Q steps a w
  | [], a, w, _, h => h
  | (i, none) :: rest, a, w, hs, h => by
    have hi : i < ops.size := (hs (i, none) (by simp)).1
    obtain ⟨o, ho, heq⟩ : ∃ o, ops[i]? = some o ∧ ops.getD i default = o := ⟨ops[i], by simp [hi], by simp [hi]⟩
    simp only [textOf, List.map_cons, Option.map_none, wpFl, wpStill, heq] at h
    unfold wpSteps stOp
    simp only [ho]
    split
    · rename_i hw; simp only [hw, if_true] at h
      exact Oper.still_mono (fun a' h' => steps_of_fl rest a' w (fun s hs' => hs s (by simp [hs'])) h') h
    · rename_i hw; simp only [hw] at h
      exact steps_of_fl rest _ w (fun s hs' => hs s (by simp [hs'])) h
  | (i, some pend) :: rest, a, w, hs, h => by
    have hi : i < ops.size := (hs (i, some pend) (by simp)).1
    have hpd : ∀ j ∈ pend, j < ops.size := (hs (i, some pend) (by simp)).2 pend rfl
    obtain ⟨o, ho, heq⟩ : ∃ o, ops[i]? = some o ∧ ops.getD i default = o := ⟨ops[i], by simp [hi], by simp [hi]⟩
    simp only [textOf, List.map_cons, Option.map_some, wpFl, wpList, heq] at h
    unfold wpSteps wpOp
    simp only [ho]
    split
    · rename_i hw; simp only [hw, if_true] at h
      rcases h with h | ⟨_, _, _, hl⟩
      case inr => exact hl.elim
      refine .inl (?_ : Oper.wp ..)
      have key : ∀ {K K' : Act → World → Prop} {Qa : Exit → Act → World → Prop}, (∀ a w, K a w → K' a w) → (∀ c a w, ¬ Qa (.panic c) a w) → (¬ LetsOut Qa) →
          Oper.wp P o a w K Qa → Oper.wp P o a w K' bot := by
        intro K K' Qa hk hp hl h
        unfold Oper.wp at *
        generalize (execOp a.eval o).run P w = r at *
        cases r with
        | ok n w' =>
          cases n <;> simp only [Oper.upon] at h ⊢ <;> first
            | exact hk _ _ h
            | exact Calls.mono h (fun e w'' he => by
                cases e with
                | returned v => exact hk _ _ he
                | panicked c => exact (hp _ _ _ he).elim
                | outgrown => exact (hl he).elim)
            | exact Rows.mono h (fun _ _ he => hk _ _ he)
        | halt x w' => cases x <;> simp only [Oper.upon] at h; exact (hp _ _ _ h).elim
      refine key (fun a' w' h' => ?_) (fun c a w h => h) (fun ⟨_, _, h⟩ => h) h
      exact ⟨all_of_same h'.1 hpd, steps_of_fl rest a' w' (fun s hs' => hs s (by simp [hs'])) h'.2⟩
    · rename_i hw; simp only [hw] at h
      exact ⟨all_of_same h.1 hpd, steps_of_fl rest _ w (fun s hs' => hs s (by simp [hs'])) h.2⟩

/-! The look over the region's text -/

def ancOf (masks : List Nat) (i j : Nat) : Bool := (masks.getD j 0).testBit i

def edgeMask (md : Region.Mode) (masks : List Nat) (j : Nat) (es : List Edge) : Nat :=
  es.foldr (fun e m => if Region.binds md e && decide (e.on < j) then m ||| (1 <<< e.on ||| masks.getD e.on 0) else m) 0

theorem edgeMask_bit {masks : List Nat} {j i : Nat} : ∀ {es : List Edge}, (edgeMask md masks j es).testBit i = true → ∃ e ∈ es, Region.binds md e = true ∧ e.on < j ∧ (e.on = i ∨ ancOf masks i e.on = true)
  | [], h => by simp [edgeMask] at h
  | e :: es, h => by
    simp only [edgeMask, List.foldr_cons] at h
    split at h
    · rename_i hb
      simp only [Bool.and_eq_true, decide_eq_true_eq] at hb
      rw [Nat.testBit_or, Nat.testBit_or, Bool.or_eq_true, Bool.or_eq_true] at h
      rcases h with h | h | h
      · obtain ⟨e', he', r⟩ := edgeMask_bit (es := es) h
        exact ⟨e', by simp [he'], r⟩
      · refine ⟨e, by simp, hb.1, hb.2, .inl ?_⟩
        simp [Nat.one_shiftLeft, Nat.testBit_two_pow] at h
        exact h
      · exact ⟨e, by simp, hb.1, hb.2, .inr h⟩
    · obtain ⟨e', he', r⟩ := edgeMask_bit (es := es) h
      exact ⟨e', by simp [he'], r⟩

def pathB (md : Region.Mode) (ops : Array Oper) (masks : List Nat) : Bool :=
  decide (masks.length ≤ ops.size) && (List.range ops.size).all fun j =>
    match ops[j]? with
    | none => false
    | some o => (masks.getD j 0 ||| edgeMask md masks j o.after.toList) == edgeMask md masks j o.after.toList

def keptB (ops : Array Oper) (masks : List Nat) (j k : Nat) (oj ok : Oper) : Bool :=
  k == j || ancOf masks k j || match ok.dst with
    | none => true
    | some d => !(oj.looksAt ops).contains d && oj.dst != some d

def selfB (ops : Array Oper) (o : Oper) : Bool :=
  match o.dst with
  | none => true
  | some d => !(o.looksAt ops).contains d

def pairsB (ops : Array Oper) (masks : List Nat) (chain nc : Nat) : Bool :=
  ops.toList.zipIdx.all fun (oi, i) =>
    (!(nc.testBit i) || (!(chain.testBit i) && ops.toList.zipIdx.all fun (ok, k) => keptB ops masks i k oi ok)) &&
    (chain.testBit i || (selfB ops oi && (nc.testBit i || constB oi) &&
      ops.toList.zipIdx.all fun (oj, j) => j == i || ancOf masks i j || ancOf masks j i || oi.apart ops oj))

def flowB (md : Region.Mode) (ops : Array Oper) (masks : List Nat) (chain nc : Nat) (steps : List (Nat × Option (List Nat))) : Bool :=
  Region.noSelect ops && pathB md ops masks && pairsB ops masks chain nc && decide (nc < 1 <<< ops.size) && decide (steps.length = ops.size) && (steps.all fun s => decide (s.1 < ops.size) && (s.2.getD []).all fun j => decide (j < ops.size)) &&
    stepsB md ops (ancOf masks) chain.testBit nc.testBit steps (Array.replicate ops.size false)

theorem fit_core {masks : List Nat} {chain nc : Nat} (hsel : Region.noSelect ops = true) (hpath : pathB md ops masks = true) (hpairs : pairsB ops masks chain nc = true) (hnc : nc < 1 <<< ops.size) : Fit (ancOf masks) chain.testBit nc.testBit md ops := by
  have hz : ∀ (i : Nat) (o : Oper), ops[i]? = some o → (o, i) ∈ ops.toList.zipIdx := fun i o ho => by
    rw [List.mem_zipIdx_iff_getElem?]
    simpa using ho
  have hp : ∀ (i : Nat) (o : Oper), ops[i]? = some o →
      (nc.testBit i = true → chain.testBit i = false ∧ ∀ (k : Nat) (ok : Oper), ops[k]? = some ok → keptB ops masks i k o ok = true) ∧
      (chain.testBit i = false → selfB ops o = true ∧ (nc.testBit i = true ∨ constB o = true) ∧ ∀ (j : Nat) (oj : Oper), ops[j]? = some oj → j = i ∨ ancOf masks i j = true ∨ ancOf masks j i = true ∨ o.apart ops oj = true) := fun i o ho => by
    have h1 := List.all_eq_true.1 hpairs (o, i) (hz i o ho)
    simp only [Bool.and_eq_true, Bool.or_eq_true, Bool.not_eq_true', List.all_eq_true] at h1
    obtain ⟨h1, h2⟩ := h1
    refine ⟨fun hn => ?_, fun hc => ?_⟩
    · rcases h1 with h1 | h1
      · rw [hn] at h1; cases h1
      · exact ⟨h1.1, fun k ok hk => h1.2 (ok, k) (hz k ok hk)⟩
    · rcases h2 with h2 | h2
      · rw [hc] at h2; cases h2
      · refine ⟨h2.1.1, h2.1.2, fun j oj hj => ?_⟩
        have h3 := h2.2 (oj, j) (hz j oj hj)
        rcases h3 with ((h3 | h3) | h3) | h3
        · exact .inl (by simpa using h3)
        · exact .inr (.inl h3)
        · exact .inr (.inr (.inl h3))
        · exact .inr (.inr (.inr h3))
  have hin : ∀ i, nc.testBit i = true → ∃ o, ops[i]? = some o := fun i hi => by
    rcases Nat.lt_or_ge i ops.size with h | h
    · exact ⟨ops[i], by simp [h]⟩
    · have : nc < 2 ^ i := by
        rw [Nat.one_shiftLeft] at hnc
        exact Nat.lt_of_lt_of_le hnc (Nat.pow_le_pow_right (by omega) h)
      rw [Nat.testBit_lt_two_pow this] at hi; cases hi
  refine ⟨Region.noSelect_spec hsel, fun i j ha => ?_, fun j oj k ok hj hk hn hne => ?_, fun i oi j oj hi hj hc hne => ?_, fun i oi hi hc d hd => ?_, fun i oi hi hc => ((hp i oi hi).2 hc).2.1, fun i hn => ?_⟩
  · simp only [pathB, Bool.and_eq_true, decide_eq_true_eq] at hpath
    have hj : j < ops.size := by
      rcases Nat.lt_or_ge j masks.length with h | h
      · omega
      · simp [ancOf, List.getElem?_eq_none h] at ha
    have h1 := List.all_eq_true.1 hpath.2 j (List.mem_range.2 hj)
    have ho : ops[j]? = some ops[j] := by simp [hj]
    rw [ho] at h1
    simp only [beq_iff_eq] at h1
    have h2 : (edgeMask md masks j ops[j].after.toList).testBit i = true := by
      rw [← h1, Nat.testBit_or]
      unfold ancOf at ha
      rw [ha]; rfl
    obtain ⟨e, he, r⟩ := edgeMask_bit h2
    exact ⟨ops[j], ho, e, by simpa using he, r⟩
  · have h1 := ((hp j oj hj).1 hn).2 k ok hk
    simp only [keptB, Bool.or_eq_true, beq_iff_eq] at h1
    rcases h1 with (h1 | h1) | h1
    · exact absurd h1 hne
    · exact .inl h1
    · refine .inr fun d hd => ?_
      rw [hd] at h1
      simpa using h1
  · rcases ((hp i oi hi).2 hc).2.2 j oj hj with h | h
    · exact absurd h hne
    · exact h
  · have h1 := ((hp i oi hi).2 hc).1
    unfold selfB at h1
    rw [hd] at h1
    simpa using h1
  · obtain ⟨o, ho⟩ := hin i hn
    exact ((hp i o ho).1 hn).1

theorem fit_of {masks : List Nat} {chain nc : Nat} {steps : List (Nat × Option (List Nat))} (h : flowB md ops masks chain nc steps = true) : Fit (ancOf masks) chain.testBit nc.testBit md ops := by
  simp only [flowB, Bool.and_eq_true, decide_eq_true_eq] at h
  obtain ⟨⟨⟨⟨⟨⟨hsel, hpath⟩, hpairs⟩, hnc⟩, _⟩, _⟩, _⟩ := h
  exact fit_core hsel hpath hpairs hnc

/-- A region that draws its order, walked in the order of the steps. -/
theorem region_flow {id : Nat} {Q : Exit → Act → World → Prop} {a : Act} {w : World} {l : List Oper} (masks : List Nat) (chain nc : Nat) (steps : List (Nat × Option (List Nat)))
    (hm : P.follows .mixedOrders = true) (hB : flowB .any l.toArray masks chain nc steps = true)
    (h : wpFl P l.toArray (Q .normal) (textOf l.toArray steps) a w.drew) : (Code.region id l.toArray true).wp P Q a w := by
  have F := fit_of hB
  simp only [flowB, Bool.and_eq_true, decide_eq_true_eq] at hB
  obtain ⟨⟨⟨_, hlen⟩, hin⟩, hst⟩ := hB
  refine wp_region_any hm (wpAny_of_P (anc := ancOf masks) (chain := chain.testBit) (nc := nc.testBit) (Q := Q .normal) (fun _ _ h => h) _ _ _ _ ?_)
  rw [← hlen]
  refine steps_sound F steps _ a _ (by simp [hlen]) (fun j oj _ hl => ?_) (fun j ⟨hj, _⟩ => ?_) (by rw [hlen]; exact hst)
    (steps_of_fl steps a _ (fun s hs => by
      have h1 := List.all_eq_true.1 hin s hs
      simp only [Bool.and_eq_true, decide_eq_true_eq, List.all_eq_true] at h1
      exact ⟨h1.1, fun p hp j hj => h1.2 j (by rw [hp]; exact hj)⟩) h)
  · rw [getD_replicate_false] at hl; cases hl
  · rw [getD_replicate_false] at hj; cases hj

/-- An operation that only looks. -/
def looksB (o : Oper) : Bool :=
  match o.op with
  | .move _ | .assign _ | .extract .. | .pick .. | .load .. | .nilCheck _ | .binOp .. | .unOp .. | .convert .. | .makeInterface .. | .makeFunc .. | .slice .. | .fieldAddr .. | .field ..
  | .indexAddr .. | .index .. | .lookup .. | .typeAssert .. | .sliceToArrayPointer .. => true
  | .call { callee := .builtin b, .. } => match b with | .len | .cap | .min | .max => true | _ => false
  | _ => false

/-- A region that only looks, in the text's order. -/
theorem region_still {id : Nat} {Q : Exit → Act → World → Prop} {a : Act} {w : World} {l : List Oper} (hm : P.follows .mixedOrders = true) (hB : (l.all looksB && Region.lexB .any l.toArray) = true)
    (h : wpStill P l.toArray w.drew (fun a' => Q .normal a' w.drew) l a) : (Code.region id l.toArray true).wp P Q a w := wp_region_still_lit hm (by simp only [Bool.and_eq_true] at hB; exact hB.2) h

#print axioms region_flow
end
end Go.Proofs.YtfiebpcambdbaaaDoor.Flow
