/-
  A machine with one thread more.
-/
import Derived.Test.YtbfeopakmjcapaaTsoK
import Derived.Test.YtbfeopakmjcapaaMade
set_option linter.unusedVariables false
set_option linter.unusedSimpArgs false
set_option maxHeartbeats 4000000
set_option maxRecDepth 8000
namespace Go.Proofs.Ytbfeopakmjcapaa.Tso
open Go.RowKit Go.Proofs.Ytbfeopakmjcapaa.Seq

def newTh (c : List Ins) : Th := ⟨c, 0, List.replicate 16 0, [], false⟩
def memInit (words : Nat) (mem : List Int) : List Int := mem.take words ++ List.replicate (words - mem.length) 0
def start (codes : List (List Ins)) (words : Nat) (mem : List Int) (locks room : Nat) : M := ⟨codes.map newTh, memInit words mem, List.replicate locks (-1), [], room⟩

theorem memInit_length (words : Nat) (mem : List Int) : (memInit words mem).length = words := by simp [memInit]; omega

/-- One thread more. -/
theorem addTh {w w2 w3 : World} {B : Nat} {R : Nat → Prop} {ids : List (Nat × Nat)} {Q : Nat → Nat → Prop} {m : M} (h : MRep w B R ids Q m) (hf : Fr (fun _ => False) w w2) {ta : Option Addr} {tc : Nat} {ma oa ea : Value} (hB : Blk w B #[.slice ta ids.length tc, ma, oa, ea, .int .i64 m.room] 110)
    {S : Nat → Prop} (hS : ∀ k, S k → R k ∧ tyAt w k = some 113) (hf2 : Fr S w2 w3) {tb bb : Nat} {t : Th} (htb : w.heap.size ≤ tb) (hbb : w.heap.size ≤ bb) (hth : ThRep w2 (fun k => w.heap.size ≤ k ∧ k < w2.heap.size) (fun _ => False) tb bb m.room t)
    {ta' : Option Addr} {tc' : Nat} (ho : OwnAt w3 113 1 (fun k => S k ∨ w2.heap.size ≤ k) ta' (ids.length + 1) tc' ((ids.map fun p => Value.pointer (some ⟨p.1, 0, none⟩)) ++ [.pointer (some ⟨tb, 0, none⟩)])) :
    (∃ Q', MRep (w3.setCell ⟨B, 0, none⟩ (.slice ta' (ids.length + 1) tc')) B (fun k => R k ∨ (w.heap.size ≤ k ∧ k < w3.heap.size)) (ids ++ [(tb, bb)]) Q' { m with ths := m.ths ++ [t] }) ∧
      Fr (fun k => S k ∨ k = B) w2 (w3.setCell ⟨B, 0, none⟩ (.slice ta' (ids.length + 1) tc')) := by
  obtain ⟨ta0, tc0, ma0, mc0, oa0, oc0, ea0, ec0, g1, g2, g3, g4, g5⟩ := h.head
  have hw2 := hf.size
  have hw3 := hf2.size
  have hBl := hB.lt
  have hty2 : ∀ k, S k → tyAt w2 k = some 113 := fun k hk => by
    have h1 := (hS k hk).2
    have hlt := h.lt k (hS k hk).1
    unfold tyAt at h1 ⊢
    rw [hf.block k hlt (fun h => h)]
    exact h1
  have hSB : ¬ S B := fun hk => by have := (ty_blk hB).symm.trans (hS B hk).2; exact absurd (Option.some.inj this) (by decide)
  have hB3 : Blk w3 B #[.slice ta ids.length tc, ma, oa, ea, .int .i64 m.room] 110 := (hB.fr hf (fun h => h)).fr hf2 hSB
  have heq := hB.symm.trans g1
  simp at heq
  obtain ⟨⟨rfl, rfl⟩, rfl, rfl, rfl⟩ := heq
  have hfB : Fr (fun k => k = B) w3 (w3.setCell ⟨B, 0, none⟩ (.slice ta' (ids.length + 1) tc')) := by (with_reducible repeat' (first | exact Fr.refl _ _ | apply Fr.alloc | apply Fr.drew | apply Fr.drewN | refine Fr.setCell ?_ ?_ _)); exact fun _ => rfl
  have hB4 := hB3.set 0 (.slice ta' (ids.length + 1) tc')
  have hsz : (w3.setCell ⟨B, 0, none⟩ (.slice ta' (ids.length + 1) tc')).heap.size = w3.heap.size := by simp
  have hall : Fr (fun k => S k ∨ k = B) w2 (w3.setCell ⟨B, 0, none⟩ (.slice ta' (ids.length + 1) tc')) := (hf2.mono (S2 := fun k => S k ∨ k = B) (fun k _ h => .inl h)).trans hfB (fun k _ h => .inr h)
  have hallw : Fr (fun k => S k ∨ k = B) w (w3.setCell ⟨B, 0, none⟩ (.slice ta' (ids.length + 1) tc')) := (hf.mono (S2 := fun k => S k ∨ k = B) (fun k _ h => h.elim)).trans hall (fun _ _ h => h)
  have hty : ∀ k, S k ∨ k = B → tyAt w k = some 113 ∨ tyAt w k = some 110 := fun k hk => by
    rcases hk with hk | hk
    · exact .inl (hS k hk).2
    · exact .inr (by rw [hk]; exact ty_blk hB)
  have hne : ∀ T : TypeId, T ≠ 113 → T ≠ 110 → ∀ k, S k ∨ k = B → tyAt w k = some T → False := fun T a b k hk e => by
    rcases hty k hk with h | h <;> rw [h] at e
    · exact a (Option.some.inj e).symm
    · exact b (Option.some.inj e).symm
  have hnB : ∀ k, S k ∨ k = B → k < w.heap.size := fun k hk => by
    rcases hk with hk | hk
    · exact h.lt k (hS k hk).1
    · rw [hk]; exact hBl
  refine ⟨⟨fun j => if j = ids.length then fun _ => False else Q j, ⟨ta', tc', ma0, mc0, oa0, oc0, ea0, ec0, ?_, ?_, ?_, ?_, ?_⟩, ?_, ?_, ?_, ?_, .inl h.inB, ?_, ?_, ?_, ?_⟩, hall⟩
  · simpa using hB4
  · have := own_frN ho hfB (fun k hk e => by rw [hk, ty_blk hB3] at e; exact absurd (Option.some.inj e) (by decide))
    refine (by simpa using this : OwnAt _ _ _ _ _ _ _ _).mono ?_
    intro k hk hh
    rcases hh with hh | hh
    · exact .inl (hS k hh).1
    · exact .inr ⟨by omega, by rw [← hsz]; exact hk⟩
  · exact (own_frN g3 hallw (fun k hk e => (hne _ (by decide) (by decide) k hk e).elim)).mono (fun k _ h => .inl h)
  · exact (own_frN g4 hallw (fun k hk e => (hne _ (by decide) (by decide) k hk e).elim)).mono (fun k _ h => .inl h)
  · exact (own_frN g5 hallw (fun k hk e => (hne _ (by decide) (by decide) k hk e).elim)).mono (fun k _ h => .inl h)
  · simp [h.len]
  · intro i p u hp hu
    by_cases hi : i < ids.length
    · rw [List.getElem?_append_left hi] at hp
      rw [List.getElem?_append_left (by have := h.len; omega)] at hu
      rw [if_neg (by omega)]
      obtain ⟨l0, ⟨ca, cc, l1, l2⟩, l3⟩ := h.ths i p u hp hu
      have hb := buf_ty l3
      exact ⟨l0, ⟨ca, cc, blk_frN l1 hallw (fun k hk e => (hne _ (by decide) (by decide) k hk e).elim), (own_frN l2 hallw (fun k hk e => (hne _ (by decide) (by decide) k hk e).elim)).mono (fun k _ h => .inl h)⟩,
        buf_frN l3 hallw (fun hk => hne _ (by decide) (by decide) _ hk hb) (fun k hk e => (hne _ (by decide) (by decide) k hk e).elim)⟩
    · rw [List.getElem?_append_right (by omega)] at hp
      rw [List.getElem?_append_right (by have := h.len; omega), ← h.len] at hu
      obtain ⟨d, hd⟩ : ∃ d, d = i - ids.length := ⟨_, rfl⟩
      rw [← hd] at hp hu
      cases d with
      | zero =>
        simp at hp hu
        subst hp hu
        rw [if_pos (by omega)]
        obtain ⟨l0, ⟨ca, cc, k1, k2⟩, k3⟩ := hth
        exact ⟨l0, ⟨ca, cc, k1.fr hall (fun hk => by have := hnB _ hk; omega), (k2.fr hall (fun k hk hh => by have := hnB _ hh; omega)).mono (fun k _ h => .inr ⟨h.1, by omega⟩)⟩, k3.fr hall (fun hk => by have := hnB _ hk; omega) (fun k hk => hk.elim)⟩
      | succ d => simp at hp
  · rw [List.map_append, List.nodup_append]
    refine ⟨h.tbs, by simp, fun a ha b hb => ?_⟩
    simp at hb
    subst hb
    obtain ⟨p, hp, rfl⟩ := List.mem_map.1 ha
    have := h.lt _ (h.inT p hp).1
    omega
  · rw [List.map_append, List.nodup_append]
    refine ⟨h.bbs, by simp, fun a ha b hb => ?_⟩
    simp at hb
    subst hb
    obtain ⟨p, hp, rfl⟩ := List.mem_map.1 ha
    have := h.lt _ (h.inT p hp).2
    omega
  · intro p hp
    rcases List.mem_append.1 hp with hp | hp
    · exact ⟨.inl (h.inT p hp).1, .inl (h.inT p hp).2⟩
    · simp at hp
      subst hp
      obtain ⟨l0, ⟨ca, cc, k1, k2⟩, k3⟩ := hth
      have := k1.lt
      have := k3.lt
      exact ⟨.inr ⟨htb, by omega⟩, .inr ⟨hbb, by omega⟩⟩
  · intro j k hk
    split at hk
    · exact hk.elim
    · exact .inl (h.inQ j k hk)
  · intro j j' k hk hk'
    split at hk
    · exact hk.elim
    · split at hk'
      · exact hk'.elim
      · exact h.dis _ _ _ hk hk'
  · intro k hk
    rcases hk with hk | hk
    · have := h.lt k hk; omega
    · omega

/-- No thread yet. -/
theorem noTh_rep {w : World} {B : Nat} {R : Nat → Prop} {ma oa : Option Addr} {mc oc words locks room : Nat} {mem : List Int} (hB : Blk w B #[.slice none 0 0, .slice ma words mc, .slice oa locks oc, .slice none 0 0, .int .i64 room] 110)
    (hm : OwnAt w 2 1 R ma words mc (ints mem)) (hml : mem.length = words) (ho : OwnAt w 3 1 R oa locks oc (ints (List.replicate locks (-1)))) (hR : R B) (hl : ∀ k, R k → k < w.heap.size) :
    MRep w B R [] (fun _ _ => False) ⟨[], mem, List.replicate locks (-1), [], room⟩ := by
  subst hml
  refine ⟨⟨none, 0, ma, mc, oa, oc, none, 0, ?_, OwnAt.nil _ _ _ _ _, hm, ?_, OwnAt.nil _ _ _ _ _⟩, rfl, fun i p t hp => by simp at hp, by simp, by simp, hR, fun p hp => by simp at hp, fun _ _ h => h.elim, fun _ _ _ h => h.elim, hl⟩
  · simpa using hB
  · simpa using ho
end Go.Proofs.Ytbfeopakmjcapaa.Tso
