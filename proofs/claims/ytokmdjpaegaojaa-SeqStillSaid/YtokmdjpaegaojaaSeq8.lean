/-
  New of package seq: threads at their beginnings, in new memory.
-/
import Derived.Test.YtokmdjpaegaojaaSeq7
namespace Go.Proofs.Ytokmdjpaegaojaa.Seq
open Go.RowKit
attribute [local irreducible] wpStill wpList Calls CallsIn

def start (codes : List (List Ins)) (mem : List Int) : M := ⟨codes.map fun c => ⟨c, 0, fun _ => none, false⟩, mem, fun _ => none⟩

theorem OwnAt.tight {w : World} {E : TypeId} {sz : Nat} {R : Nat → Prop} {ao : Option Addr} {n cap : Nat} {cs : List Value} (h : OwnAt w E sz R ao n cap cs) :
    ∃ S : Nat → Prop, OwnAt w E sz S ao n cap cs ∧ ∀ k, S k → R k ∧ tyAt w k = some E := by
  obtain ⟨h1, h2, h3, h4⟩ := h
  rcases h4 with h | ⟨r, off, C, e, hr, hb, hs, ht⟩
  · exact ⟨fun _ => False, ⟨h1, h2, h3, .inl h⟩, fun _ h => h.elim⟩
  · exact ⟨fun k => k = r, ⟨h1, h2, h3, .inr ⟨r, off, C, e, rfl, hb, hs, ht⟩⟩, fun k hk => by subst hk; exact ⟨hr, ty_blk hb⟩⟩

section
variable {w w1 : World}
theorem own_frT {E T : TypeId} {sz n cap : Nat} {R S : Nat → Prop} {ao : Option Addr} {cs : List Value} (h : OwnAt w E sz R ao n cap cs) (hf : Fr S w w1) (hS : ∀ k, S k → tyAt w k = some T) (hT : E ≠ T) : OwnAt w1 E sz R ao n cap cs := by
  obtain ⟨h1, h2, h3, h4⟩ := h
  refine ⟨h1, h2, h3, ?_⟩
  rcases h4 with h | ⟨r, off, C, e, hr, hb, hs, ht⟩
  · exact .inl h
  · exact .inr ⟨r, off, C, e, hr, hb.fr hf (fun hk => hT (Option.some.inj ((ty_blk hb).symm.trans (hS _ hk)))), hs, ht⟩
theorem blk_frT {T E : TypeId} {b : Nat} {S : Nat → Prop} {cs : Array Value} (h : Blk w b cs E) (hf : Fr S w w1) (hS : ∀ k, S k → tyAt w k = some T) (hT : E ≠ T) : Blk w1 b cs E :=
  h.fr hf (fun hk => hT (Option.some.inj ((ty_blk h).symm.trans (hS _ hk))))
theorem map_frT {T : TypeId} {b : Nat} {S : Nat → Prop} {k : IntKind} {f : Int → Option Value} (h : MapF w b k f) (hf : Fr S w w1) (hS : ∀ k, S k → tyAt w k = some T) : MapF w1 b k f :=
  h.fr hf (fun hk => by have := (ty_map h).symm.trans (hS _ hk); cases this)
end

/-- One thread more. -/
theorem addTh {w w2 w3 : World} {B ob : Nat} {R : Nat → Prop} {ids : List (Nat × Nat)} {m : M} (h : RunRep w B R ids ob m) (hf : Fr (fun _ => False) w w2) {ta : Option Addr} {tc : Nat} {ma : Value} (hB : Blk w B #[.slice ta ids.length tc, ma, .map (some ob)] 54)
    {S : Nat → Prop} (hS : ∀ k, S k → R k ∧ tyAt w k = some 55) (hf2 : Fr S w2 w3) {tb rb : Nat} {t : Th} (htb : w.heap.size ≤ tb) (hrb : w.heap.size ≤ rb) (hth : ThRep w2 (fun k => w.heap.size ≤ k ∧ k < w2.heap.size) tb rb t)
    {ta' : Option Addr} {tc' : Nat} (ho : OwnAt w3 55 1 (fun k => S k ∨ w2.heap.size ≤ k) ta' (ids.length + 1) tc' ((ids.map fun p => Value.pointer (some ⟨p.1, 0, none⟩)) ++ [.pointer (some ⟨tb, 0, none⟩)])) :
    RunRep (w3.setCell ⟨B, 0, none⟩ (.slice ta' (ids.length + 1) tc')) B (fun k => R k ∨ (w.heap.size ≤ k ∧ k < w3.heap.size)) (ids ++ [(tb, rb)]) ob { m with ths := m.ths ++ [t] } ∧
      Fr (fun k => S k ∨ k = B) w2 (w3.setCell ⟨B, 0, none⟩ (.slice ta' (ids.length + 1) tc')) := by
  obtain ⟨ta0, tc0, ma0, mc0, g1, g2, g3⟩ := h.head
  have hw2 := hf.size
  have hw3 := hf2.size
  have hBl := hB.lt
  have hty2 : ∀ k, S k → tyAt w2 k = some 55 := fun k hk => by
    have h1 := (hS k hk).2
    have hlt := h.lt k (hS k hk).1
    unfold tyAt at h1 ⊢
    rw [hf.block k hlt (fun h => h)]
    exact h1
  have hSB : ¬ S B := fun hk => by have := (ty_blk hB).symm.trans (hS B hk).2; exact absurd (Option.some.inj this) (by decide)
  have hB3 : Blk w3 B #[.slice ta ids.length tc, ma, .map (some ob)] 54 := (hB.fr hf (fun h => h)).fr hf2 hSB
  have heq : ma = .slice ma0 m.mem.length mc0 := by
    have := hB.symm.trans g1
    simp at this
    exact this.2
  subst heq
  have hfB : Fr (fun k => k = B) w3 (w3.setCell ⟨B, 0, none⟩ (.slice ta' (ids.length + 1) tc')) := by (repeat' (first | with_reducible exact Fr.refl _ _ | with_reducible apply Fr.alloc | with_reducible apply Fr.drew | with_reducible apply Fr.drewN | (with_reducible refine Fr.setCell ?_ ?_ _))); exact fun _ => rfl
  have hB4 := hB3.set 0 (.slice ta' (ids.length + 1) tc')
  have hne : ∀ T : TypeId, T ≠ 54 → tyAt w3 B ≠ some T := fun T hT e => hT (Option.some.inj ((ty_blk hB3).symm.trans e)).symm
  have hsz : (w3.setCell ⟨B, 0, none⟩ (.slice ta' (ids.length + 1) tc')).heap.size = w3.heap.size := by simp
  have oldTh : ∀ (p : Nat × Nat) (t : Th), ThRep w R p.1 p.2 t → ThRep (w3.setCell ⟨B, 0, none⟩ (.slice ta' (ids.length + 1) tc')) (fun k => R k ∨ (w.heap.size ≤ k ∧ k < w3.heap.size)) p.1 p.2 t := by
    rintro p t ⟨ca, cc, k1, k2, k3⟩
    have a1 := blk_frT (k1.fr hf (fun h => h)) hf2 hty2 (by decide)
    have a2 := own_frT (k2.fr hf (fun _ _ h => h)) hf2 hty2 (by decide)
    have a3 := map_frT (k3.fr hf (fun h => h)) hf2 hty2
    exact ⟨ca, cc, blk_fr1 a1 hfB (.inl (hne _ (by decide))), (own_fr1 a2 hfB (hne _ (by decide))).mono (fun k _ h => .inl h), map_fr1 a3 hfB (.inl (by rw [ty_blk hB3]; simp))⟩
  refine ⟨⟨⟨ta', tc', ma0, mc0, ?_, ?_, ?_⟩, ?_, ?_, ?_, ?_, ?_, .inl h.inB, .inl h.inO, ?_, ?_⟩, ?_⟩
  · simpa using hB4
  · have := own_fr1 ho hfB (hne _ (by decide))
    refine (by simpa using this : OwnAt _ _ _ _ _ _ _ _).mono ?_
    intro k hk hh
    rcases hh with hh | hh
    · exact .inl (hS k hh).1
    · exact .inr ⟨by omega, by rw [← hsz]; exact hk⟩
  · exact (own_fr1 (own_frT (g3.fr hf (fun _ _ h => h)) hf2 hty2 (by decide)) hfB (hne _ (by decide))).mono (fun k _ h => .inl h)
  · exact map_fr1 (map_frT (h.own.fr hf (fun h => h)) hf2 hty2) hfB (.inl (by rw [ty_blk hB3]; simp))
  · simp [h.len]
  · intro i p u hp hu
    by_cases hi : i < ids.length
    · rw [List.getElem?_append_left hi] at hp
      rw [List.getElem?_append_left (by have := h.len; omega)] at hu
      exact oldTh p u (h.ths i p u hp hu)
    · rw [List.getElem?_append_right (by omega)] at hp
      rw [List.getElem?_append_right (by have := h.len; omega), ← h.len] at hu
      obtain ⟨d, hd⟩ : ∃ d, d = i - ids.length := ⟨_, rfl⟩
      rw [← hd] at hp hu
      cases d with
      | zero =>
        simp at hp hu
        subst hp hu
        obtain ⟨ca, cc, k1, k2, k3⟩ := hth
        have a1 := k1.fr hf2 (fun hk => by have := h.lt _ (hS _ hk).1; omega)
        have a2 := k2.fr hf2 (fun k hk hh => by have := h.lt _ (hS _ hh).1; omega)
        have a3 := k3.fr hf2 (fun hk => by have := h.lt _ (hS _ hk).1; omega)
        exact ⟨ca, cc, a1.fr hfB (by omega), (a2.fr hfB (fun k hk => by omega)).mono (fun k _ h => .inr ⟨h.1, by omega⟩), a3.fr hfB (by omega)⟩
      | succ d => simp at hp
  · rw [List.map_append, List.nodup_append]
    refine ⟨h.tbs, by simp, fun a ha b hb => ?_⟩
    simp at hb
    subst hb
    obtain ⟨p, hp, rfl⟩ := List.mem_map.1 ha
    have := h.lt _ (h.inT p hp).1
    omega
  · rw [List.map_append, ← List.cons_append, List.nodup_append]
    refine ⟨h.rbs, by simp, fun a ha b hb => ?_⟩
    simp at hb
    subst hb
    rcases List.mem_cons.1 ha with rfl | ha
    · have := h.lt _ h.inO; omega
    · obtain ⟨p, hp, rfl⟩ := List.mem_map.1 ha
      have := h.lt _ (h.inT p hp).2
      omega
  · intro p hp
    rcases List.mem_append.1 hp with hp | hp
    · exact ⟨.inl (h.inT p hp).1, .inl (h.inT p hp).2⟩
    · simp at hp
      subst hp
      obtain ⟨ca, cc, k1, k2, k3⟩ := hth
      have := k1.lt
      have := k3.lt
      exact ⟨.inr ⟨htb, by omega⟩, .inr ⟨hrb, by omega⟩⟩
  · intro k hk
    rcases hk with hk | hk
    · have := h.lt k hk; omega
    · omega
  · exact (hf2.mono (S2 := fun k => S k ∨ k = B) (fun k _ h => .inl h)).trans hfB (fun k _ h => .inr h)
end Go.Proofs.Ytokmdjpaegaojaa.Seq
