/-
  How a *seq.Run lies in memory, and what a change of one of its parts leaves.
-/
import Derived.Test.YtokmdjpaegaojaaSeqM
namespace Go.Proofs.Ytokmdjpaegaojaa.Seq
open Go.RowKit

/-- What a block of cells is made of; a map, or nothing: none. -/
def tyAt (w : World) (x : Nat) : Option TypeId := match w.heap[x]? with | some (.cells _ T _) => some T | _ => none

variable {w w1 : World}

theorem ty_blk {b : Nat} {cs : Array Value} {T : TypeId} (h : Blk w b cs T) : tyAt w b = some T := by unfold Blk at h; simp [tyAt, h]
theorem ty_map {b : Nat} {k : IntKind} {f : Int → Option Value} (h : MapF w b k f) : tyAt w b = none := by
  obtain ⟨es, c, h, _⟩ := h
  simp [tyAt, h]

theorem own_fr1 {E : TypeId} {sz x n cap : Nat} {R : Nat → Prop} {ao : Option Addr} {cs : List Value} (h : OwnAt w E sz R ao n cap cs) (hf : Fr (fun k => k = x) w w1) (hx : tyAt w x ≠ some E) : OwnAt w1 E sz R ao n cap cs := by
  obtain ⟨h1, h2, h3, h4⟩ := h
  refine ⟨h1, h2, h3, ?_⟩
  rcases h4 with h | ⟨r, off, C, e, hr, hb, hs, ht⟩
  · exact .inl h
  · exact .inr ⟨r, off, C, e, hr, hb.fr hf (fun e => by subst e; exact hx (ty_blk hb)), hs, ht⟩

theorem blk_fr1 {b x : Nat} {cs : Array Value} {T : TypeId} (h : Blk w b cs T) (hf : Fr (fun k => k = x) w w1) (hx : tyAt w x ≠ some T ∨ b ≠ x) : Blk w1 b cs T :=
  h.fr hf (fun e => by
    rcases hx with hx | hx
    · subst e; exact hx (ty_blk h)
    · exact hx e)

theorem map_fr1 {b x : Nat} {k : IntKind} {f : Int → Option Value} (h : MapF w b k f) (hf : Fr (fun k => k = x) w w1) (hx : tyAt w x ≠ none ∨ b ≠ x) : MapF w1 b k f :=
  h.fr hf (fun e => by
    rcases hx with hx | hx
    · subst e; exact hx (ty_map h)
    · exact hx e)

def insC (i : Ins) : List Value := [.int .i64 i.k, .int .i64 i.op, .int .i64 i.d, .int .i64 i.a, .int .i64 i.b, .int .i64 i.n, .int .i64 i.to]
def codeC (c : List Ins) : List Value := c.flatMap insC
def regC (f : Int → Option Int) : Int → Option Value := fun n => (f n).map (.int .i64)

theorem codeC_length (c : List Ins) : (codeC c).length = c.length * 7 := by
  induction c with
  | nil => rfl
  | cons i c ih => simp [codeC, insC, Nat.add_mul] at ih ⊢; omega

theorem regC_upd (f : Int → Option Int) (n : Int) (v : Option Int) : regC (updI f n v) = upd (regC f) n (v.map (.int .i64)) := by
  funext x
  unfold regC updI upd
  split <;> rfl

/-- A thread at block tb, its registers at block rb, its code in the blocks C. -/
def ThRep (w : World) (C : Nat → Prop) (tb rb : Nat) (t : Th) : Prop :=
  ∃ ca cc, Blk w tb #[.slice ca t.code.length cc, .int .i64 t.at_, .map (some rb), .bool t.over] 59 ∧ OwnAt w 42 7 C ca t.code.length cc (codeC t.code) ∧ MapF w rb .i64 (regC t.regs)

/-- A run at block B: its parts lie in R; ids: its threads' blocks, and their registers'; ob: the owners'. -/
structure RunRep (w : World) (B : Nat) (R : Nat → Prop) (ids : List (Nat × Nat)) (ob : Nat) (m : M) : Prop where
  head : ∃ ta tc ma mc, Blk w B #[.slice ta ids.length tc, .slice ma m.mem.length mc, .map (some ob)] 54 ∧ OwnAt w 55 1 R ta ids.length tc (ids.map fun p => .pointer (some ⟨p.1, 0, none⟩)) ∧
    OwnAt w 2 1 R ma m.mem.length mc (ints m.mem)
  own : MapF w ob .i64 (regC m.owner)
  len : ids.length = m.ths.length
  ths : ∀ (i : Nat) (p : Nat × Nat) (t : Th), ids[i]? = some p → m.ths[i]? = some t → ThRep w R p.1 p.2 t
  tbs : (ids.map (·.1)).Nodup
  rbs : (ob :: ids.map (·.2)).Nodup
  inB : R B
  inO : R ob
  inT : ∀ p ∈ ids, R p.1 ∧ R p.2
  lt : ∀ k, R k → k < w.heap.size

theorem ThRep.fr {C S : Nat → Prop} {tb rb : Nat} {t : Th} (h : ThRep w C tb rb t) (hf : Fr S w w1) (h1 : ¬ S tb) (h2 : ¬ S rb) (h3 : ∀ k, C k → ¬ S k) : ThRep w1 C tb rb t := by
  obtain ⟨ca, cc, g1, g2, g3⟩ := h
  exact ⟨ca, cc, g1.fr hf h1, g2.fr hf h3, g3.fr hf h2⟩

namespace RunRep
variable {B ob : Nat} {R S : Nat → Prop} {ids : List (Nat × Nat)} {m : M}

/-- What lies elsewhere may change. -/
theorem fr (h : RunRep w B R ids ob m) (hf : Fr S w w1) (hn : ∀ k, R k → ¬ S k) : RunRep w1 B R ids ob m := by
  obtain ⟨ta, tc, ma, mc, g1, g2, g3⟩ := h.head
  exact ⟨⟨ta, tc, ma, mc, g1.fr hf (hn _ h.inB), g2.fr hf hn, g3.fr hf hn⟩, h.own.fr hf (hn _ h.inO), h.len,
    fun i p t hp ht => (h.ths i p t hp ht).fr hf (hn _ (h.inT p (List.mem_of_getElem? hp)).1) (hn _ (h.inT p (List.mem_of_getElem? hp)).2) hn, h.tbs, h.rbs, h.inB, h.inO, h.inT,
    fun k hk => Nat.lt_of_lt_of_le (h.lt k hk) hf.size⟩

/-- A thread's block, or its registers, have changed: the thread is another one. -/
theorem setTh {i : Nat} {p : Nat × Nat} {t t1 : Th} (h : RunRep w B R ids ob m) (hp : ids[i]? = some p) (ht : m.ths[i]? = some t) (x : Nat) (hx : x = p.1 ∨ x = p.2) (hf : Fr (fun k => k = x) w w1)
    (h1 : ThRep w1 R p.1 p.2 t1) : RunRep w1 B R ids ob { m with ths := m.ths.set i t1 } := by
  obtain ⟨ta, tc, ma, mc, g1, g2, g3⟩ := h.head
  obtain ⟨ca, cc, k1, k2, k3⟩ := h.ths i p t hp ht
  have hty : tyAt w x = some 59 ∨ tyAt w x = none := by
    rcases hx with rfl | rfl
    · exact .inl (ty_blk k1)
    · exact .inr (ty_map k3)
  have hne : ∀ T : TypeId, T ≠ 59 → tyAt w x ≠ some T := fun T hT e => by
    rcases hty with h | h <;> rw [h] at e
    · exact hT (Option.some.inj e).symm
    · cases e
  have hi : i < ids.length := (List.getElem?_eq_some_iff.1 hp).1
  have hob : ob ≠ p.2 := fun e => (List.nodup_cons.1 h.rbs).1 (by rw [e]; exact List.mem_map.2 ⟨p, List.mem_of_getElem? hp, rfl⟩)
  refine ⟨⟨ta, tc, ma, mc, blk_fr1 g1 hf (.inl (hne _ (by decide))), own_fr1 g2 hf (hne _ (by decide)), own_fr1 g3 hf (hne _ (by decide))⟩, ?_, by simp [h.len], ?_, h.tbs, h.rbs, h.inB, h.inO, h.inT,
    fun k hk => Nat.lt_of_lt_of_le (h.lt k hk) hf.size⟩
  · refine map_fr1 h.own hf ?_
    rcases hx with rfl | rfl
    · exact .inl (by rw [ty_blk k1]; simp)
    · exact .inr hob
  · intro j q u hq hu
    by_cases hij : i = j
    · subst hij
      rw [List.getElem?_set] at hu
      simp only [if_true] at hu
      split at hu
      · obtain rfl := Option.some.inj hu
        rw [hp] at hq
        obtain rfl := Option.some.inj hq
        exact h1
      · cases hu
    · rw [List.getElem?_set_ne hij] at hu
      obtain ⟨ca', cc', l1, l2, l3⟩ := h.ths j q u hq hu
      have d1 : q.1 ≠ p.1 := fun e => hij (by
        have a1 : (ids.map (·.1))[i]? = some p.1 := by simp [hp]
        have a2 : (ids.map (·.1))[j]? = some q.1 := by simp [hq]
        exact (List.getElem?_inj (by simpa using hi) h.tbs).1 (by rw [a1, a2, e]))
      have d2 : q.2 ≠ p.2 := fun e => hij (by
        have a1 : (ids.map (·.2))[i]? = some p.2 := by simp [hp]
        have a2 : (ids.map (·.2))[j]? = some q.2 := by simp [hq]
        exact (List.getElem?_inj (by simpa using hi) (List.nodup_cons.1 h.rbs).2).1 (by rw [a1, a2, e]))
      refine ⟨ca', cc', blk_fr1 l1 hf ?_, own_fr1 l2 hf (hne _ (by decide)), map_fr1 l3 hf ?_⟩
      · rcases hx with rfl | rfl
        · exact .inr d1
        · exact .inl (by rw [ty_map k3]; simp)
      · rcases hx with rfl | rfl
        · exact .inl (by rw [ty_blk k1]; simp)
        · exact .inr d2

/-- The owners have changed. -/
theorem setOwn {f : Int → Option Int} (h : RunRep w B R ids ob m) (hf : Fr (fun k => k = ob) w w1) (h1 : MapF w1 ob .i64 (regC f)) : RunRep w1 B R ids ob { m with owner := f } := by
  obtain ⟨ta, tc, ma, mc, g1, g2, g3⟩ := h.head
  have hne : ∀ T : TypeId, tyAt w ob ≠ some T := fun T => by rw [ty_map h.own]; simp
  refine ⟨⟨ta, tc, ma, mc, blk_fr1 g1 hf (.inl (hne _)), own_fr1 g2 hf (hne _), own_fr1 g3 hf (hne _)⟩, h1, h.len, fun i p t hp ht => ?_, h.tbs, h.rbs, h.inB, h.inO, h.inT,
    fun k hk => Nat.lt_of_lt_of_le (h.lt k hk) hf.size⟩
  obtain ⟨ca, cc, l1, l2, l3⟩ := h.ths i p t hp ht
  have hob : p.2 ≠ ob := fun e => (List.nodup_cons.1 h.rbs).1 (by rw [← e]; exact List.mem_map.2 ⟨p, List.mem_of_getElem? hp, rfl⟩)
  exact ⟨ca, cc, blk_fr1 l1 hf (.inl (hne _)), own_fr1 l2 hf (hne _), map_fr1 l3 hf (.inr hob)⟩
end RunRep
end Go.Proofs.Ytokmdjpaegaojaa.Seq
