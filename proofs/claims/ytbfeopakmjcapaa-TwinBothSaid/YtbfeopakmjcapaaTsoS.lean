/-
  A thread's block that changes; an event that came (did).
-/
import Derived.Test.YtbfeopakmjcapaaTsoW
set_option linter.unusedVariables false
set_option linter.unusedSimpArgs false
set_option maxHeartbeats 4000000
set_option maxRecDepth 8000
namespace Go.Proofs.Ytbfeopakmjcapaa.Tso
open Go.RowKit Go.Proofs.Ytbfeopakmjcapaa.Seq
attribute [local irreducible] wpStill wpList Calls CallsIn

section
variable {w w1 : World} {B i : Nat} {R : Nat → Prop} {ids : List (Nat × Nat)} {Q : Nat → Nat → Prop} {m : M} {p : Nat × Nat} {t t1 : Th} {ca : Option Addr} {cc : Nat}

theorem MRep.th (h : MRep w B R ids Q m) (hp : ids[i]? = some p) (ht : m.ths[i]? = some t) :
    t.regs.length = 16 ∧ (∃ ca cc, Blk w p.1 (thC p.2 ca cc t).toArray 116 ∧ OwnAt w 57 7 R ca t.code.length cc (codeC t.code)) ∧ BufRep w p.2 (Q i) m.room t.wait := h.ths i p t hp ht

theorem ifQ (i : Nat) (Q : Nat → Nat → Prop) : (fun j => if j = i then Q i else Q j) = Q := by
  funext j
  split
  · rename_i h; rw [h]
  · rfl

/-- The thread's own block has changed. -/
theorem blkTh (h : MRep w B R ids Q m) (hp : ids[i]? = some p) (ht : m.ths[i]? = some t) (hf : Fr (fun k => k = p.1) w w1) (h0 : Blk w p.1 (thC p.2 ca cc t).toArray 116) (h1 : Blk w1 p.1 (thC p.2 ca cc t1).toArray 116)
    (hc : t1.code = t.code) (hw : t1.wait = t.wait) (hr : t1.regs.length = 16) : MRep w1 B R ids Q { m with ths := m.ths.set i t1 } := by
  obtain ⟨_, ⟨ca', cc', k1, k2⟩, k3⟩ := h.th hp ht
  have hty := ty_blk h0
  have e : ca' = ca ∧ cc' = cc := by
    have := k1.symm.trans h0
    simp [thC] at this
    exact ⟨this.1, this.2⟩
  obtain ⟨rfl, rfl⟩ := e
  have hb2 := buf_ty k3
  have := h.setTh hp ht (fun k hk => .inl ⟨hk, by rw [hk]; exact hty⟩) hf (R1 := R) (Qi := Q i) (fun _ h => h) (fun k hk => Nat.lt_of_lt_of_le (h.lt k hk) hf.size) (fun k hk => .inl hk) (fun k hk => h.inQ i k hk) (t1 := t1)
    ⟨hr, ⟨ca', cc', h1, by rw [hc]; exact own_frN k2 hf (fun k hk e => by rw [hk, hty] at e; exact absurd (Option.some.inj e) (by decide))⟩, by
      rw [hw]; exact buf_frN k3 hf (fun e => by rw [e, hty] at hb2; exact absurd (Option.some.inj hb2) (by decide)) (fun k hk e => by rw [hk, hty] at e; exact absurd (Option.some.inj e) (by decide))⟩
  rwa [ifQ] at this

theorem setPlace {tb bb : Nat} (h : Blk w tb (thC bb ca cc t).toArray 116) (x : Int) : Blk (w.setCell ⟨tb, 2, none⟩ (.int .i64 x)) tb (thC bb ca cc { t with place := x }).toArray 116 := by
  have := h.set 2 (.int .i64 x)
  simpa [thC] using this

theorem setReg {tb bb : Nat} (h : Blk w tb (thC bb ca cc t).toArray 116) (k : Nat) (hk : k < t.regs.length) (x : Int) : Blk (w.setCell ⟨tb, 3 + k, none⟩ (.int .i64 x)) tb (thC bb ca cc { t with regs := t.regs.set k x }).toArray 116 := by
  have := h.set (3 + k) (.int .i64 x)
  rw [show 3 + k = k + 3 by omega] at this ⊢
  simp only [thC, List.setIfInBounds_toArray, List.set_cons_succ] at this ⊢
  rw [List.set_append_left _ _ (by simpa [ints_length] using hk), ints_set] at this
  exact this

theorem setOver {tb bb : Nat} (h : Blk w tb (thC bb ca cc t).toArray 116) (hr : t.regs.length = 16) (x : Bool) : Blk (w.setCell ⟨tb, 19, none⟩ (.bool x)) tb (thC bb ca cc { t with over := x }).toArray 116 := by
  have := h.set 19 (.bool x)
  simp only [thC, List.setIfInBounds_toArray, List.set_cons_succ] at this ⊢
  rw [List.set_append_right _ _ (by simp [ints_length, hr])] at this
  simpa [ints_length, hr] using this
end

theorem szLK : (Try.prog.info? 37).map (·.size) = some 4 := by kernel_rfl
theorem zLK : (Try.prog.info? 37).map (fun i => (i.zero, i.size)) = some (some (leakV none_), 4) := by kernel_rfl
theorem unLK : ∃ d, Try.prog.underlying 37 = some d ∧ d.isRow = true := ⟨_, Try.underlying37, rfl⟩
theorem infoEV : (Try.prog.info? 53).map (fun i => (i.zero, i.size, i.bytes)) = some (some (.agg #[.int .i64 0, .int .i64 0, .int .i64 0]), 3, 24) := by kernel_rfl

theorem evC_length (l : List Ev) : (evC l).length = l.length * 3 := by
  induction l with
  | nil => rfl
  | cons e l ih => simp [evC, Nat.add_mul] at ih ⊢; omega
theorem evC_append (l r : List Ev) : evC (l ++ r) = evC l ++ evC r := by simp [evC]
theorem evC_one (l : List Ev) : ∀ u ∈ evC l, u.oneCell' = true := by
  intro u hu
  obtain ⟨e, _, hi⟩ := List.mem_flatMap.1 hu
  simp at hi
  rcases hi with rfl | rfl | rfl <;> rfl

/-- Events are few. -/
def evRoom (m : M) : Prop := m.events.length ≤ 1000000

set_option maxHeartbeats 2000000 in
theorem did_is (B : Nat) (R : Nat → Prop) (ids : List (Nat × Nat)) (m : M) (kind who x : Int) (w : World) (h : MR w R B ids m) (he : evRoom m) :
    Calls Try.prog 95 #[.pointer (some ⟨B, 0, none⟩), .int .i64 kind, .int .i64 who, .int .i64 x] w fun e w' => e = .returned (.tuple #[leakV ⟨5, who, kind, x⟩, .bool true]) ∧
      ∃ R', MR w' R' B ids { m with events := m.events ++ [⟨kind, who, x⟩] } ∧ Mv R R' w w' := by
  obtain ⟨Q, h⟩ := h
  obtain ⟨ta, tc, ma, mc, oa, oc, ea, ec, hb, g2, g3, g4, g5⟩ := h.head
  have b3 : w.cell? ⟨B, 3, none⟩ = some (.slice ea m.events.length ec) := (hb.cell 3).trans rfl
  have f3 := hb.free 3
  have hlt := hb.lt
  obtain ⟨S, hS, hS2⟩ := OwnAt.tight g5
  obtain ⟨i0, hi, hz0, hz1, hz2⟩ := info_parts infoEV
  obtain ⟨d4, hd4, hd5⟩ := unLK
  obtain ⟨L, hL⟩ : ∃ L, L = m.events.length := ⟨_, rfl⟩
  unfold evRoom at he
  have HS := hid hS
  have HS2 := hid hS2
  have HB := hid hb
  have HR := hid h
  have HL := hid hL
  have HE := hid he
  have HLK := hid (Blk.new w (leakV none_).cells 37)
  rw [← hL] at b3
  clear hS hS2 hb h hL he g2 g3 g4 g5
  go_enter Try.func95, Try.ntmps95
  go_wp2_with (first | (at_builtin; refine wpList_append_Own _ rfl (.tmp 14) (.tmp 19) 47 rfl 53 i0 (.agg #[.int .i64 0, .int .i64 0, .int .i64 0]) 3 24 Try.underlying47 hi hz0 hz1 hz2 rfl (by decide) S (fun _ => True) ea L ec (evC m.events) rfl ?own (some ⟨w.heap.size + 1, 0, none⟩) 1 1 (evC [⟨kind, who, x⟩]) rfl ?vw (evC_one _) ?b1 ?b2 ?grow) | still_step | (with_reducible first | refine wpStill_nil ?_ | refine Flow.Both.mk ?_ ?_ | exact True.intro) | (with_reducible refine Flow.same_mk rfl rfl rfl ?_; go_simp; done) | (with_reducible exact Flow.same_un rfl rfl rfl) | (refine Flow.region_still mixed ?hB ?_; (case hB => decide +kernel)))
  case own => rw [HL.out]; exact HS.out.fr (S := fun _ => False) (by (with_reducible repeat' (first | exact Fr.refl _ _ | apply Fr.alloc | apply Fr.drew | apply Fr.drewN | refine Fr.setCell ?_ ?_ _))) (fun _ _ h => h)
  case vw => exact Vw.of_blk (C := #[.int .i64 kind, .int .i64 who, .int .i64 x]) (T := 53) (by have := Blk.new (w.alloc (.cells (leakV none_).cells 37)) #[.int .i64 kind, .int .i64 who, .int .i64 x] 53; simp only [World.size_alloc] at this; exact this) trivial (by simp)
  case b1 => unfold maxLen; have := HL.out; have := HE.out; omega
  case b2 => have := HL.out; have := HE.out; omega
  case grow =>
    intro ao' cap' w1 ho1 hf1
    have hnB : ¬ S B := fun hk => by have := (ty_blk HB.out).symm.trans (HS2.out B hk).2.1; exact absurd (Option.some.inj this) (by decide)
    have hFw : Fr S w w1 := (show Fr S w _ by (with_reducible repeat' (first | exact Fr.refl _ _ | apply Fr.alloc | apply Fr.drew | apply Fr.drewN | refine Fr.setCell ?_ ?_ _))).trans hf1 (fun _ _ h => h)
    have b3' := hFw.cell b3 hnB
    have f3' := (hFw.frozen (a := ⟨B, 3, none⟩) hlt hnB).trans f3
    have HLK1 := hid ((HLK.out.alloc (.cells #[.int .i64 kind, .int .i64 who, .int .i64 x] 53)).fr hf1 (fun hk => by have := (HS2.out _ hk).2.2; omega))
    have HB1 := hid (HB.out.fr hFw hnB)
    have HF1 := hid hFw
    have HO1 := hid ho1
    have hsz := hf1.size
    have hBl1 : B < w1.heap.size := Nat.lt_of_lt_of_le hlt hFw.size
    have hne : ¬ w.heap.size = B := by omega
    have hne2 : ¬ B = w.heap.size := by omega
    clear hFw hf1 ho1
    go_wp2_with (first | (refine wpList_storeW (b := w.heap.size) (C := (leakV none_).cells) (T := 37) (by first | exact HLK1.out.set_ne (by simp; omega) _ | exact (HLK1.out.set_ne (by simp; omega) _).drew) (by rfl) (by rfl) (by rfl) (by rfl) (by rfl) szLK (by rfl) ?_; intro w2 hb2 hf2 hs2; have HB2 := hid hb2; have HF2 := hid hf2; have HSZ2 := hid hs2; clear hb2 hf2 hs2) | still_step | (with_reducible first | refine wpStill_nil ?_ | refine Flow.Both.mk ?_ ?_ | exact True.intro) | (with_reducible refine Flow.same_mk rfl rfl rfl ?_; go_simp; done) | (with_reducible exact Flow.same_un rfl rfl rfl) | (refine Flow.region_still mixed ?hB ?_; (case hB => decide +kernel)))
    have hres := fun (C : Array Value) (hC : C.size = 4) (tmps : Array Value) (w : World) (b : Nat) (ha : tmps.getD 8 undef = .pointer (some ⟨b, 0, none⟩)) (hb : Blk w b C 37) => results_ct (P := Try.prog) Try.results95 ha hb hd4 hd5 (by rw [hC]; exact szLK)
    refine bodyPost_ret (hres _ rfl _ _ _ rfl HB2.out) rfl ?_
    refine ⟨rfl, fun k => R k ∨ (w.heap.size ≤ k ∧ k < w2.heap.size), ?_, fun k h => .inl h, fun k h => h.imp id (fun h => h.1), ?_⟩
    · have hFb : Fr (fun k => k = B) w1 (w1.setCell ⟨B, 3, none⟩ (.slice ao' (L + 1) cap')) := by (with_reducible repeat' (first | exact Fr.refl _ _ | apply Fr.alloc | apply Fr.drew | apply Fr.drewN | refine Fr.setCell ?_ ?_ _)); exact fun _ => rfl
      have hF2 : Fr (fun k => k = w.heap.size) (w1.setCell ⟨B, 3, none⟩ (.slice ao' (L + 1) cap')) w2 := by first | exact HF2.out | exact (Fr.refl _ _).drew.trans HF2.out (fun _ _ h => h)
      have hFa : Fr (fun k => S k ∨ k = B) w w2 := ((HF1.out.mono (fun k _ h => .inl h)).trans hFb (fun k _ h => .inr h)).trans hF2 (fun k hk e => by omega)
      have hlen : (m.events ++ [(⟨kind, who, x⟩ : Ev)]).length = L + 1 := by simp [HL.out]
      have hs12 : w1.heap.size ≤ w2.heap.size := Nat.le_trans hFb.size hF2.size
      obtain ⟨ta', tc', ma', mc', oa', oc', ea', ec', hb', g2, g3, g4, g5⟩ := HR.out.head
      have hsame := hb'.symm.trans HB.out
      simp at hsame
      obtain ⟨⟨rfl, rfl⟩, ⟨rfl, rfl⟩, ⟨rfl, rfl⟩, ⟨rfl, rfl⟩⟩ := hsame
      refine ⟨Q, HR.out.setHd (m1 := { m with events := m.events ++ [⟨kind, who, x⟩] }) (fun k hk => ?_) hFa (fun k h => .inl h) (fun k hk => ?_) rfl rfl (fun ta2 tc2 hrow hc => ?_)⟩
      · rcases hk with hk | hk
        · exact .inr (.inr (.inr (HS2.out k hk).2.1))
        · exact .inl (by rw [hk]; exact ty_blk HB.out)
      · rcases hk with hk | hk
        · exact Nat.lt_of_lt_of_le (HR.out.lt k hk) hFa.size
        · exact hk.2
      · have hc' := (HB.out.cell 0).symm.trans hc
        simp at hc'
        obtain ⟨rfl, rfl⟩ := hc'
        have hty : ∀ k, S k ∨ k = B → tyAt w k = some 53 ∨ tyAt w k = some 110 := fun k hk => by
          rcases hk with hk | hk
          · exact .inl (HS2.out k hk).2.1
          · exact .inr (by rw [hk]; exact ty_blk HB.out)
        refine ⟨ma', mc', oa', oc', ao', cap', ?_, ?_, ?_, ?_⟩
        · rw [hlen]
          have := (HB1.out.set 3 (.slice ao' (L + 1) cap')).fr hF2 (by intro e; omega)
          simpa using this
        · exact (own_frN g3 hFa (fun k hk e => by rcases hty k hk with h | h <;> rw [h] at e <;> exact absurd (Option.some.inj e) (by decide))).mono (fun k _ h => .inl h)
        · exact (own_frN g4 hFa (fun k hk e => by rcases hty k hk with h | h <;> rw [h] at e <;> exact absurd (Option.some.inj e) (by decide))).mono (fun k _ h => .inl h)
        · rw [hlen, evC_append]
          have h5 := (HO1.out.fr hFb (fun k hk e => ?_)).fr hF2 (fun k hk e => ?_)
          · refine h5.mono (fun k hk h => ?_)
            rcases h with h | h
            · exact .inl (HS2.out k h).1
            · (try simp at h)
              exact .inr ⟨by omega, hk⟩
          · subst e
            rcases hk with h | h
            · exact hnB h
            · (try simp at h); omega
          · subst e
            rcases hk with h | h
            · have := (HS2.out _ h).2.2; omega
            · (try simp at h); omega
    · refine ((HF1.out.mono (S2 := R) (fun k _ h => (HS2.out k h).1)).trans (S := R) (S2 := fun k => k = B) (by (with_reducible repeat' (first | exact Fr.refl _ _ | apply Fr.alloc | apply Fr.drew | apply Fr.drewN | refine Fr.setCell ?_ ?_ _)); exact fun _ => rfl) (fun k _ e => by rw [e]; exact HR.out.inB)).trans (S := R) HF2.out (fun k hk e => by omega)
end Go.Proofs.Ytbfeopakmjcapaa.Tso
