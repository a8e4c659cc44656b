/-
  How a *tso.Machine lies in memory, and what a change of one of its parts leaves.
-/
import Derived.Test.YtbfeopakmjcapaaTsoL
import Derived.Test.YtbfeopakmjcapaaWhole
set_option linter.unusedVariables false
set_option linter.unusedSimpArgs false
set_option maxHeartbeats 4000000
set_option maxRecDepth 8000
namespace Go.Proofs.Ytbfeopakmjcapaa.Tso
open Go.RowKit Go.Proofs.Ytbfeopakmjcapaa.Seq

/-- What a block of cells is made of. -/
def tyAt (w : World) (x : Nat) : Option TypeId := match w.heap[x]? with | some (.cells _ T _) => some T | _ => none

variable {w w1 : World}

theorem ty_blk {b : Nat} {cs : Array Value} {T : TypeId} (h : Blk w b cs T) : tyAt w b = some T := by unfold Blk at h; simp [tyAt, h]

/-- Nothing of type T is among what changed. -/
def NoT (w : World) (S : Nat → Prop) (T : TypeId) : Prop := ∀ k, S k → tyAt w k ≠ some T

theorem own_frN {E : TypeId} {sz n cap : Nat} {R S : Nat → Prop} {ao : Option Addr} {cs : List Value} (h : OwnAt w E sz R ao n cap cs) (hf : Fr S w w1) (hS : ∀ k, S k → tyAt w k = some E → ¬ R k) : OwnAt w1 E sz R ao n cap cs := by
  obtain ⟨h1, h2, h3, h4⟩ := h
  refine ⟨h1, h2, h3, ?_⟩
  rcases h4 with h | ⟨r, off, C, e, hr, hb, hs, ht⟩
  · exact .inl h
  · exact .inr ⟨r, off, C, e, hr, hb.fr hf (fun hk => hS r hk (ty_blk hb) hr), hs, ht⟩

theorem blk_frN {b : Nat} {S : Nat → Prop} {cs : Array Value} {T : TypeId} (h : Blk w b cs T) (hf : Fr S w w1) (hS : ∀ k, S k → tyAt w k = some T → k ≠ b) : Blk w1 b cs T :=
  h.fr hf (fun hk => hS b hk (ty_blk h) rfl)

theorem OwnAt.tight {E : TypeId} {sz : Nat} {R : Nat → Prop} {ao : Option Addr} {n cap : Nat} {cs : List Value} (h : OwnAt w E sz R ao n cap cs) :
    ∃ S : Nat → Prop, OwnAt w E sz S ao n cap cs ∧ ∀ k, S k → R k ∧ tyAt w k = some E ∧ k < w.heap.size := by
  obtain ⟨h1, h2, h3, h4⟩ := h
  rcases h4 with h | ⟨r, off, C, e, hr, hb, hs, ht⟩
  · exact ⟨fun _ => False, ⟨h1, h2, h3, .inl h⟩, fun _ h => h.elim⟩
  · exact ⟨fun k => k = r, ⟨h1, h2, h3, .inr ⟨r, off, C, e, rfl, hb, hs, ht⟩⟩, fun k hk => by subst hk; exact ⟨hr, ty_blk hb, hb.lt⟩⟩

theorem buf_tight {b room : Nat} {R : Nat → Prop} {l : List (Int × Int)} (h : BufRep w b R room l) : ∃ S : Nat → Prop, BufRep w b S room l ∧ ∀ k, S k → R k ∧ tyAt w k = some 124 ∧ k < w.heap.size := by
  obtain ⟨h1, h2, h3, h4, ao, cap, hk, ho⟩ := h
  obtain ⟨S, h5, h6⟩ := OwnAt.tight ho
  exact ⟨S, ⟨h1, h2, h3, fun hs => h4 (h6 _ hs).1, ao, cap, hk, h5⟩, h6⟩

theorem buf_ty {b room : Nat} {R : Nat → Prop} {l : List (Int × Int)} (h : BufRep w b R room l) : tyAt w b = some 140 := by
  obtain ⟨h1, h2, h3, h4, ao, cap, hk, ho⟩ := h
  exact ty_blk hk

theorem buf_frN {b room : Nat} {R S : Nat → Prop} {l : List (Int × Int)} (h : BufRep w b R room l) (hf : Fr S w w1) (h1 : ¬ S b) (h2 : ∀ k, S k → tyAt w k = some 124 → ¬ R k) : BufRep w1 b R room l := by
  obtain ⟨g1, g2, g3, g4, ao, cap, hk, ho⟩ := h
  exact ⟨g1, g2, g3, g4, ao, cap, hk.fr hf h1, own_frN ho hf h2⟩

def thC (bb : Nat) (ca : Option Addr) (cc : Nat) (t : Th) : List Value := .pointer (some ⟨bb, 0, none⟩) :: .slice ca t.code.length cc :: .int .i64 t.place :: (ints t.regs ++ [.bool t.over])
def evC (l : List Ev) : List Value := l.flatMap fun e => [.int .i64 e.kind, .int .i64 e.thread, .int .i64 e.n]
def leakV (k : Leak) : Value := .agg #[.int .i64 k.kind, .int .i64 k.thread, .int .i64 k.what, .int .i64 k.n]

/-- A thread at block tb, its buffer at bb and that one's row in Q, its code in C. -/
def ThRep (w : World) (C Q : Nat → Prop) (tb bb room : Nat) (t : Th) : Prop :=
  t.regs.length = 16 ∧ (∃ ca cc, Blk w tb (thC bb ca cc t).toArray 116 ∧ OwnAt w 57 7 C ca t.code.length cc (codeC t.code)) ∧ BufRep w bb Q room t.wait

/-- A machine at block B: its parts lie in R; ids: its threads' blocks, and their buffers'; Q: these ones' rows. -/
structure MRep (w : World) (B : Nat) (R : Nat → Prop) (ids : List (Nat × Nat)) (Q : Nat → Nat → Prop) (m : M) : Prop where
  head : ∃ ta tc ma mc oa oc ea ec, Blk w B #[.slice ta ids.length tc, .slice ma m.mem.length mc, .slice oa m.own.length oc, .slice ea m.events.length ec, .int .i64 m.room] 110 ∧
    OwnAt w 113 1 R ta ids.length tc (ids.map fun p => .pointer (some ⟨p.1, 0, none⟩)) ∧ OwnAt w 2 1 R ma m.mem.length mc (ints m.mem) ∧ OwnAt w 3 1 R oa m.own.length oc (ints m.own) ∧
    OwnAt w 53 3 R ea m.events.length ec (evC m.events)
  len : ids.length = m.ths.length
  ths : ∀ (i : Nat) (p : Nat × Nat) (t : Th), ids[i]? = some p → m.ths[i]? = some t → ThRep w R (Q i) p.1 p.2 m.room t
  tbs : (ids.map (·.1)).Nodup
  bbs : (ids.map (·.2)).Nodup
  inB : R B
  inT : ∀ p ∈ ids, R p.1 ∧ R p.2
  inQ : ∀ i k, Q i k → R k
  dis : ∀ i j k, Q i k → Q j k → i = j
  lt : ∀ k, R k → k < w.heap.size

theorem ThRep.fr {C Q S : Nat → Prop} {tb bb room : Nat} {t : Th} (h : ThRep w C Q tb bb room t) (hf : Fr S w w1) (h1 : ¬ S tb) (h2 : ¬ S bb) (h3 : ∀ k, C k → ¬ S k) (h4 : ∀ k, Q k → ¬ S k) : ThRep w1 C Q tb bb room t := by
  obtain ⟨g0, ⟨ca, cc, g1, g2⟩, g3⟩ := h
  exact ⟨g0, ⟨ca, cc, g1.fr hf h1, g2.fr hf h3⟩, g3.fr hf h2 h4⟩

namespace MRep
variable {B : Nat} {R S : Nat → Prop} {ids : List (Nat × Nat)} {Q : Nat → Nat → Prop} {m : M}

/-- What lies elsewhere may change. -/
theorem fr (h : MRep w B R ids Q m) (hf : Fr S w w1) (hn : ∀ k, R k → ¬ S k) : MRep w1 B R ids Q m := by
  obtain ⟨ta, tc, ma, mc, oa, oc, ea, ec, g1, g2, g3, g4, g5⟩ := h.head
  exact ⟨⟨ta, tc, ma, mc, oa, oc, ea, ec, g1.fr hf (hn _ h.inB), g2.fr hf hn, g3.fr hf hn, g4.fr hf hn, g5.fr hf hn⟩, h.len,
    fun i p t hp ht => (h.ths i p t hp ht).fr hf (hn _ (h.inT p (List.mem_of_getElem? hp)).1) (hn _ (h.inT p (List.mem_of_getElem? hp)).2) hn (fun k hk => hn k (h.inQ i k hk)), h.tbs, h.bbs, h.inB, h.inT, h.inQ, h.dis,
    fun k hk => Nat.lt_of_lt_of_le (h.lt k hk) hf.size⟩

theorem mono {R2 : Nat → Prop} (h : MRep w B R ids Q m) (hr : ∀ k, R k → R2 k) (hl : ∀ k, R2 k → k < w.heap.size) : MRep w B R2 ids Q m := by
  obtain ⟨ta, tc, ma, mc, oa, oc, ea, ec, g1, g2, g3, g4, g5⟩ := h.head
  exact ⟨⟨ta, tc, ma, mc, oa, oc, ea, ec, g1, g2.mono (fun k _ h => hr k h), g3.mono (fun k _ h => hr k h), g4.mono (fun k _ h => hr k h), g5.mono (fun k _ h => hr k h)⟩, h.len, fun i p t hp ht => by
    obtain ⟨l0, ⟨ca, cc, l1, l2⟩, l3⟩ := h.ths i p t hp ht
    exact ⟨l0, ⟨ca, cc, l1, l2.mono (fun k _ h => hr k h)⟩, l3⟩, h.tbs, h.bbs, hr _ h.inB, fun p hp => ⟨hr _ (h.inT p hp).1, hr _ (h.inT p hp).2⟩, fun i k hk => hr _ (h.inQ i k hk), h.dis, hl⟩

/-- A thread's block, its buffer, or that one's row have changed: the thread is another one. -/
theorem setTh {i : Nat} {p : Nat × Nat} {t t1 : Th} (h : MRep w B R ids Q m) (hp : ids[i]? = some p) (ht : m.ths[i]? = some t) (hS : ∀ k, S k → (k = p.1 ∧ tyAt w k = some 116) ∨ (k = p.2 ∧ tyAt w k = some 140) ∨ (Q i k ∧ tyAt w k = some 124))
    (hf : Fr S w w1) {R1 Qi : Nat → Prop} (hR1 : ∀ k, R k → R1 k) (hR2 : ∀ k, R1 k → k < w1.heap.size) (hQ1 : ∀ k, Qi k → Q i k ∨ w.heap.size ≤ k) (hQ2 : ∀ k, Qi k → R1 k)
    (h1 : ThRep w1 R1 Qi p.1 p.2 m.room t1) : MRep w1 B R1 ids (fun j => if j = i then Qi else Q j) { m with ths := m.ths.set i t1 } := by
  obtain ⟨ta, tc, ma, mc, oa, oc, ea, ec, g1, g2, g3, g4, g5⟩ := h.head
  have hne : ∀ T : TypeId, T ≠ 116 → T ≠ 140 → T ≠ 124 → ∀ k, S k → tyAt w k ≠ some T := fun T a b c k hk e => by
    rcases hS k hk with ⟨_, h⟩ | ⟨_, h⟩ | ⟨_, h⟩ <;> rw [h] at e
    · exact a (Option.some.inj e).symm
    · exact b (Option.some.inj e).symm
    · exact c (Option.some.inj e).symm
  have ow : ∀ {E : TypeId} {sz n cap : Nat} {ao : Option Addr} {cs : List Value}, OwnAt w E sz R ao n cap cs → E ≠ 116 → E ≠ 140 → E ≠ 124 → OwnAt w1 E sz R1 ao n cap cs := fun o a b c =>
    (own_frN o hf (fun k hk e => absurd e (hne _ a b c k hk))).mono (fun k _ h => hR1 k h)
  have hi : i < ids.length := (List.getElem?_eq_some_iff.1 hp).1
  refine ⟨⟨ta, tc, ma, mc, oa, oc, ea, ec, blk_frN g1 hf (fun k hk e => absurd e (hne _ (by decide) (by decide) (by decide) k hk)), ow g2 (by decide) (by decide) (by decide), ow g3 (by decide) (by decide) (by decide), ow g4 (by decide) (by decide) (by decide), ow g5 (by decide) (by decide) (by decide)⟩,
    by simp [h.len], ?_, h.tbs, h.bbs, hR1 _ h.inB, fun p hp => ⟨hR1 _ (h.inT p hp).1, hR1 _ (h.inT p hp).2⟩, ?_, ?_, hR2⟩
  · intro j q u hq hu
    by_cases hij : i = j
    · subst hij
      rw [List.getElem?_set] at hu
      simp only [if_true] at hu
      split at hu
      · obtain rfl := Option.some.inj hu
        rw [hp] at hq
        obtain rfl := Option.some.inj hq
        simpa using h1
      · cases hu
    · rw [List.getElem?_set_ne hij] at hu
      obtain ⟨l0, ⟨ca', cc', l1, l2⟩, l3⟩ := h.ths j q u hq hu
      have d1 : q.1 ≠ p.1 := fun e => hij (by
        have a1 : (ids.map (·.1))[i]? = some p.1 := by simp [hp]
        have a2 : (ids.map (·.1))[j]? = some q.1 := by simp [hq]
        exact (List.getElem?_inj (by simpa using hi) h.tbs).1 (by rw [a1, a2, e]))
      have d2 : q.2 ≠ p.2 := fun e => hij (by
        have a1 : (ids.map (·.2))[i]? = some p.2 := by simp [hp]
        have a2 : (ids.map (·.2))[j]? = some q.2 := by simp [hq]
        exact (List.getElem?_inj (by simpa using hi) h.bbs).1 (by rw [a1, a2, e]))
      have hty := buf_ty l3
      rw [if_neg (fun e => hij e.symm)]
      refine ⟨l0, ⟨ca', cc', blk_frN l1 hf ?_, ow l2 (by decide) (by decide) (by decide)⟩, buf_frN l3 hf ?_ ?_⟩
      · intro k hk e ek
        subst ek
        rcases hS _ hk with ⟨h, _⟩ | ⟨_, h⟩ | ⟨_, h⟩
        · exact d1 h
        · rw [h] at e; exact absurd (Option.some.inj e) (by decide)
        · rw [h] at e; exact absurd (Option.some.inj e) (by decide)
      · intro hk
        rcases hS _ hk with ⟨_, h⟩ | ⟨h, _⟩ | ⟨_, h⟩
        · rw [h] at hty; exact absurd (Option.some.inj hty) (by decide)
        · exact d2 h
        · rw [h] at hty; exact absurd (Option.some.inj hty) (by decide)
      · intro k hk e hq
        rcases hS _ hk with ⟨_, h⟩ | ⟨_, h⟩ | ⟨hq', _⟩
        · rw [h] at e; exact absurd (Option.some.inj e) (by decide)
        · rw [h] at e; exact absurd (Option.some.inj e) (by decide)
        · exact hij (h.dis _ _ _ hq' hq)
  · intro j k hk
    split at hk
    · exact hQ2 k hk
    · exact hR1 _ (h.inQ j k hk)
  · intro j j' k hk hk'
    split at hk <;> split at hk'
    · omega
    · rename_i e1 e2
      rcases hQ1 k hk with h' | h'
      · have := h.dis _ _ _ h' hk'; omega
      · have := h.lt _ (h.inQ _ _ hk'); omega
    · rename_i e1 e2
      rcases hQ1 k hk' with h' | h'
      · have := h.dis _ _ _ h' hk; omega
      · have := h.lt _ (h.inQ _ _ hk); omega
    · exact h.dis _ _ _ hk hk'

/-- Something else of the machine has changed: its own block, or the rows of words, of owners, of events. -/
theorem setHd {m1 : M} (h : MRep w B R ids Q m) (hS : ∀ k, S k → tyAt w k = some 110 ∨ tyAt w k = some 2 ∨ tyAt w k = some 3 ∨ tyAt w k = some 53) (hf : Fr S w w1) {R1 : Nat → Prop} (hR1 : ∀ k, R k → R1 k) (hR2 : ∀ k, R1 k → k < w1.heap.size)
    (hth : m1.ths = m.ths) (hro : m1.room = m.room)
    (h1 : ∀ ta tc, OwnAt w1 113 1 R1 ta ids.length tc (ids.map fun p => .pointer (some ⟨p.1, 0, none⟩)) → w.cell? ⟨B, 0, none⟩ = some (.slice ta ids.length tc) → ∃ ma mc oa oc ea ec, Blk w1 B #[.slice ta ids.length tc, .slice ma m1.mem.length mc, .slice oa m1.own.length oc, .slice ea m1.events.length ec, .int .i64 m1.room] 110 ∧
      OwnAt w1 2 1 R1 ma m1.mem.length mc (ints m1.mem) ∧ OwnAt w1 3 1 R1 oa m1.own.length oc (ints m1.own) ∧ OwnAt w1 53 3 R1 ea m1.events.length ec (evC m1.events)) : MRep w1 B R1 ids Q m1 := by
  obtain ⟨ta, tc, ma, mc, oa, oc, ea, ec, g1, g2, g3, g4, g5⟩ := h.head
  have hne : ∀ T : TypeId, T ≠ 110 → T ≠ 2 → T ≠ 3 → T ≠ 53 → ∀ k, S k → tyAt w k ≠ some T := fun T a b c d k hk e => by
    rcases hS k hk with h | h | h | h <;> rw [h] at e
    · exact a (Option.some.inj e).symm
    · exact b (Option.some.inj e).symm
    · exact c (Option.some.inj e).symm
    · exact d (Option.some.inj e).symm
  have hrows := (own_frN g2 hf (fun k hk e => absurd e (hne _ (by decide) (by decide) (by decide) (by decide) k hk))).mono (R2 := R1) (fun k _ h => hR1 k h)
  obtain ⟨ma', mc', oa', oc', ea', ec', k1, k2, k3, k4⟩ := h1 ta tc hrows (by rw [g1.cell]; rfl)
  refine ⟨⟨ta, tc, ma', mc', oa', oc', ea', ec', k1, hrows, k2, k3, k4⟩, by rw [hth]; exact h.len, ?_, h.tbs, h.bbs, hR1 _ h.inB, fun p hp => ⟨hR1 _ (h.inT p hp).1, hR1 _ (h.inT p hp).2⟩, fun i k hk => hR1 _ (h.inQ i k hk), h.dis, hR2⟩
  intro j q u hq hu
  rw [hth] at hu
  rw [hro]
  obtain ⟨l0, ⟨ca', cc', l1, l2⟩, l3⟩ := h.ths j q u hq hu
  have hty := buf_ty l3
  refine ⟨l0, ⟨ca', cc', blk_frN l1 hf (fun k hk e => absurd e (hne _ (by decide) (by decide) (by decide) (by decide) k hk)), (own_frN l2 hf (fun k hk e => absurd e (hne _ (by decide) (by decide) (by decide) (by decide) k hk))).mono (fun k _ h => hR1 k h)⟩,
    buf_frN l3 hf (fun hk => hne _ (by decide) (by decide) (by decide) (by decide) _ hk hty) (fun k hk e => absurd e (hne _ (by decide) (by decide) (by decide) (by decide) k hk))⟩
end MRep

/-- What a call did: what is the machine's now was, or is new; all else is as it was. -/
def Mv (R R' : Nat → Prop) (w w' : World) : Prop := (∀ k, R k → R' k) ∧ (∀ k, R' k → R k ∨ w.heap.size ≤ k) ∧ Fr R w w'
theorem Mv.refl (R : Nat → Prop) (w : World) : Mv R R w w := ⟨fun _ h => h, fun _ h => .inl h, Fr.refl _ _⟩
theorem Mv.trans {R R1 R2 : Nat → Prop} {w w1 w2 : World} (h : Mv R R1 w w1) (h2 : Mv R1 R2 w1 w2) : Mv R R2 w w2 :=
  ⟨fun k hk => h2.1 k (h.1 k hk), fun k hk => by
    rcases h2.2.1 k hk with h' | h'
    · exact h.2.1 k h'
    · exact .inr (Nat.le_trans h.2.2.size h'), h.2.2.trans h2.2.2 (fun k hk h' => by
      rcases h.2.1 k h' with h' | h'
      · exact h'
      · omega)⟩
theorem Mv.of_fr {R : Nat → Prop} {w w1 : World} (h : Fr (fun _ => False) w w1) : Mv R R w w1 := ⟨fun _ h => h, fun _ h => .inl h, h.mono (fun _ _ h => h.elim)⟩
/-- What lies outside the machine lies outside of it behind the call. -/
theorem Mv.out {R R' T : Nat → Prop} {w w' : World} (h : Mv R R' w w') (hT : ∀ k, T k → k < w.heap.size) (hn : ∀ k, T k → ¬ R k) : ∀ k, T k → ¬ R' k := fun k hk hr => by
  rcases h.2.1 k hr with h' | h'
  · exact hn k hk h'
  · have := hT k hk; omega

/-- The machine at block B, in R. -/
def MR (w : World) (R : Nat → Prop) (B : Nat) (ids : List (Nat × Nat)) (m : M) : Prop := ∃ Q, MRep w B R ids Q m
theorem MR.fr {R S : Nat → Prop} {B : Nat} {ids : List (Nat × Nat)} {m : M} (h : MR w R B ids m) (hf : Fr S w w1) (hn : ∀ k, R k → ¬ S k) : MR w1 R B ids m := by
  obtain ⟨Q, h⟩ := h
  exact ⟨Q, h.fr hf hn⟩
theorem MR.lt {R : Nat → Prop} {B : Nat} {ids : List (Nat × Nat)} {m : M} (h : MR w R B ids m) : ∀ k, R k → k < w.heap.size := by
  obtain ⟨Q, h⟩ := h
  exact h.lt
end Go.Proofs.Ytbfeopakmjcapaa.Tso
