/-
  Memory of a run: its words, and a word that is written.
-/
import Derived.Test.YtokmdjpaegaojaaSeq2
namespace Go.Proofs.Ytokmdjpaegaojaa.Seq
open Go.RowKit

/-- A word of a run's memory: where it lies, and what a store there leaves. -/
theorem memCell {w : World} {B ob : Nat} {R : Nat → Prop} {ids : List (Nat × Nat)} {m : M} (h : RunRep w B R ids ob m) {x : Nat} (hx : x < m.mem.length) :
    ∃ r off mc, w.cell? ⟨B, 1, none⟩ = some (.slice (some ⟨r, off, none⟩) m.mem.length mc) ∧ w.cell? ⟨r, off + x, none⟩ = some (.int .i64 (m.mem.getD x 0)) ∧ w.frozen? ⟨r, off + x, none⟩ = false ∧ R r ∧ tyAt w r = some 2 ∧
      ∀ v : Int, RunRep (w.setCell ⟨r, off + x, none⟩ (.int .i64 v)) B R ids ob { m with mem := m.mem.set x v } ∧ Fr (fun k => k = r) w (w.setCell ⟨r, off + x, none⟩ (.int .i64 v)) := by
  obtain ⟨ta, tc, ma, mc, hb, ho, hm⟩ := h.head
  obtain ⟨r, off, rfl, hr, hfz, ⟨u, hu⟩, _, _⟩ := hm.set1 hx (.int .i64 0)
  have hne : ints m.mem ≠ [] := fun e => by have := ints_length m.mem; rw [e] at this; simp at this; omega
  obtain ⟨r', off', e', _, hc⟩ := hm.vw.cell hne
  simp only [Option.some.injEq, Addr.mk.injEq, and_true] at e'
  obtain ⟨rfl, rfl⟩ := e'
  have hty : tyAt w r = some 2 := by
    obtain ⟨g1, g2, g3, g4⟩ := hm
    rcases g4 with g | ⟨r2, o2, C, e2, _, hb2, _, _⟩
    · omega
    · simp only [Option.some.injEq, Addr.mk.injEq, and_true] at e2
      obtain ⟨rfl, rfl⟩ := e2
      exact ty_blk hb2
  refine ⟨r, off, mc, (hb.cell 1).trans rfl, hc x _ (ints_get m.mem x hx), hfz, hr, hty, fun v => ?_⟩
  obtain ⟨r3, off3, e3, _, _, _, ho3, hf⟩ := hm.set1 hx (.int .i64 v)
  simp only [Option.some.injEq, Addr.mk.injEq, and_true] at e3
  obtain ⟨rfl, rfl⟩ := e3
  have hn : ∀ T : TypeId, T ≠ 2 → tyAt w r ≠ some T := fun T hT e => by rw [hty] at e; exact hT (Option.some.inj e).symm
  refine ⟨⟨⟨ta, tc, some ⟨r, off, none⟩, mc, ?_, own_fr1 ho hf (hn _ (by decide)), ?_⟩, map_fr1 h.own hf (.inl (by rw [hty]; simp)), h.len, fun i p t hp ht => ?_, h.tbs, h.rbs, h.inB, h.inO, h.inT, fun k hk => Nat.lt_of_lt_of_le (h.lt k hk) hf.size⟩, hf⟩
  · have := blk_fr1 hb hf (.inl (hn _ (by decide)))
    simpa using this
  · have e : ints (m.mem.set x v) = (ints m.mem).set x (.int .i64 v) := by simp [ints, List.map_set]
    rw [e]
    simpa using ho3
  · obtain ⟨ca, cc, l1, l2, l3⟩ := h.ths i p t hp ht
    exact ⟨ca, cc, blk_fr1 l1 hf (.inl (hn _ (by decide))), own_fr1 l2 hf (hn _ (by decide)), map_fr1 l3 hf (.inl (by rw [hty]; simp))⟩
end Go.Proofs.Ytokmdjpaegaojaa.Seq
