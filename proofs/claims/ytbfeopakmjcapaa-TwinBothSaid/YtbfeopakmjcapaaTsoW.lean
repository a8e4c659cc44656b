/-
  What the small functions of package tso do: get, word, at, Next.
-/
import Derived.Test.YtbfeopakmjcapaaTsoR
set_option linter.unusedVariables false
set_option linter.unusedSimpArgs false
set_option maxHeartbeats 4000000
set_option maxRecDepth 8000
namespace Go.Proofs.Ytbfeopakmjcapaa.Tso
open Go.RowKit Go.Proofs.Ytbfeopakmjcapaa.Seq
attribute [local irreducible] wpStill wpList Calls CallsIn

def thPtr (ids : List (Nat × Nat)) (who : Int) : Option Addr := if 0 ≤ who ∧ who < ids.length then (ids[who.toNat]?).map fun p => ⟨p.1, 0, none⟩ else none

theorem thC_length {bb cc : Nat} {ca : Option Addr} {t : Th} (h : t.regs.length = 16) : (thC bb ca cc t).length = 20 := by simp [thC, ints_length, h]
theorem thC_reg {bb cc : Nat} {ca : Option Addr} {t : Th} {k : Nat} (hk : k < t.regs.length) : (thC bb ca cc t)[3 + k]? = some (.int .i64 (t.regs.getD k 0)) := by
  rw [thC, show 3 + k = k + 3 by omega]
  simp only [List.getElem?_cons_succ]
  rw [List.getElem?_append_left (by simpa [ints_length] using hk)]
  exact ints_get t.regs k hk
theorem thC_over {bb cc : Nat} {ca : Option Addr} {t : Th} (h : t.regs.length = 16) : (thC bb ca cc t)[19]? = some (.bool t.over) := by
  rw [thC]
  simp only [List.getElem?_cons_succ]
  rw [List.getElem?_append_right (by simp [ints_length, h])]
  simp [ints_length, h]

section
variable {w : World} {tb bb cc : Nat} {ca : Option Addr} {t : Th}
theorem th0 (h : Blk w tb (thC bb ca cc t).toArray 116) : w.cell? ⟨tb, 0, none⟩ = some (.pointer (some ⟨bb, 0, none⟩)) := (h.cell 0).trans rfl
theorem th1 (h : Blk w tb (thC bb ca cc t).toArray 116) : w.cell? ⟨tb, 1, none⟩ = some (.slice ca t.code.length cc) := (h.cell 1).trans rfl
theorem th2 (h : Blk w tb (thC bb ca cc t).toArray 116) : w.cell? ⟨tb, 2, none⟩ = some (.int .i64 t.place) := (h.cell 2).trans rfl
theorem thr (h : Blk w tb (thC bb ca cc t).toArray 116) (hr : t.regs.length = 16) {k : Nat} (hk : k < 16) : w.cell? ⟨tb, 3 + k, none⟩ = some (.int .i64 (t.regs.getD k 0)) := by
  rw [h.cell]
  have := thC_reg (bb := bb) (ca := ca) (cc := cc) (t := t) (k := k) (by omega)
  simpa using this
theorem th19 (h : Blk w tb (thC bb ca cc t).toArray 116) (hr : t.regs.length = 16) : w.cell? ⟨tb, 19, none⟩ = some (.bool t.over) := by
  rw [h.cell]
  have := thC_over (bb := bb) (ca := ca) (cc := cc) (t := t) hr
  simpa using this
end

theorem get_is (B : Nat) (R : Nat → Prop) (ids : List (Nat × Nat)) (m : M) (who : Int) (w : World) (h : MR w R B ids m) :
    Calls Try.prog 62 #[.pointer (some ⟨B, 0, none⟩), .int .i64 who] w fun e w' => e = .returned (.pointer (thPtr ids who)) ∧ Fr (fun _ => False) w w' := by
  obtain ⟨Q, h⟩ := h
  obtain ⟨ta, tc, ma, mc, oa, oc, ea, ec, hb, ho, _⟩ := h.head
  have b0 : w.cell? ⟨B, 0, none⟩ = some (.slice ta ids.length tc) := (hb.cell 0).trans rfl
  have hlt := hb.lt
  have HO := hid ho
  clear ho hb h
  obtain ⟨r, hr⟩ : ∃ r, r = thPtr ids who := ⟨_, rfl⟩
  rw [← hr]
  by_cases h0 : 0 ≤ who
  · by_cases h1 : who < ids.length
    · obtain ⟨k, rfl⟩ : ∃ k : Nat, who = k := ⟨who.toNat, by omega⟩
      have hkl : k < ids.length := by omega
      have hn : r = some ⟨ids[k].1, 0, none⟩ := by rw [hr]; unfold thPtr; rw [if_pos ⟨h0, h1⟩]; simp [hkl]
      have hne : ids.map (fun p => Value.pointer (some ⟨p.1, 0, none⟩)) ≠ [] := fun e => by have := congrArg List.length e; simp at this; subst this; simp at hkl
      obtain ⟨rc, offc, rfl, _, hc⟩ := HO.out.vw.cell hne
      have q0 := hc k (.pointer (some ⟨ids[k].1, 0, none⟩)) (by simp [hkl])
      have hrl := World.block_lt_of_cell? _ _ q0
      dsimp only at hrl
      rw [← hn] at q0
      clear hr hn hc hne HO h0 h1
      generalize ids.length = L at *
      go_enter Try.func62, Try.ntmps62
      go_wp2_with (first | still_step | (with_reducible first | refine wpStill_nil ?_ | refine Flow.Both.mk ?_ ?_ | exact True.intro) | (with_reducible refine Flow.same_mk rfl rfl rfl ?_; go_simp; done) | (with_reducible exact Flow.same_un rfl rfl rfl) | (refine Flow.region_still mixed ?hB ?_; (case hB => decide +kernel)))
      go_ret
      exact ⟨rfl, by (with_reducible repeat' (first | exact Fr.refl _ _ | apply Fr.alloc | apply Fr.drew | apply Fr.drewN | refine Fr.setCell ?_ ?_ _))⟩
    · have hn : r = none := by rw [hr]; unfold thPtr; rw [if_neg (fun h => h1 h.2)]
      subst hn
      clear hr HO
      generalize ids.length = L at *
      go_enter Try.func62, Try.ntmps62
      go_wp2_with (first | still_step | (with_reducible first | refine wpStill_nil ?_ | refine Flow.Both.mk ?_ ?_ | exact True.intro) | (with_reducible refine Flow.same_mk rfl rfl rfl ?_; go_simp; done) | (with_reducible exact Flow.same_un rfl rfl rfl) | (refine Flow.region_still mixed ?hB ?_; (case hB => decide +kernel)))
      go_ret
      exact ⟨rfl, by (with_reducible repeat' (first | exact Fr.refl _ _ | apply Fr.alloc | apply Fr.drew | apply Fr.drewN | refine Fr.setCell ?_ ?_ _))⟩
  · have hn : r = none := by rw [hr]; unfold thPtr; rw [if_neg (fun h => h0 h.1)]
    subst hn
    clear hr HO
    generalize ids.length = L at *
    go_enter Try.func62, Try.ntmps62
    go_wp2_with (first | still_step | (with_reducible first | refine wpStill_nil ?_ | refine Flow.Both.mk ?_ ?_ | exact True.intro) | (with_reducible refine Flow.same_mk rfl rfl rfl ?_; go_simp; done) | (with_reducible exact Flow.same_un rfl rfl rfl) | (refine Flow.region_still mixed ?hB ?_; (case hB => decide +kernel)))
    go_ret
    exact ⟨rfl, by (with_reducible repeat' (first | exact Fr.refl _ _ | apply Fr.alloc | apply Fr.drew | apply Fr.drewN | refine Fr.setCell ?_ ?_ _))⟩

theorem th_cases {w : World} {B : Nat} {R : Nat → Prop} {ids : List (Nat × Nat)} {Q : Nat → Nat → Prop} {m : M} (h : MRep w B R ids Q m) (who : Int) :
    (thPtr ids who = none ∧ m.th who = none) ∨ ∃ (k : Nat) (p : Nat × Nat) (t : Th), who = k ∧ ids[k]? = some p ∧ m.ths[k]? = some t ∧ thPtr ids who = some ⟨p.1, 0, none⟩ ∧ m.th who = some t ∧ ThRep w R (Q k) p.1 p.2 m.room t := by
  have hl := h.len
  by_cases hw : 0 ≤ who ∧ who < ids.length
  · obtain ⟨k, rfl⟩ : ∃ k : Nat, who = k := ⟨who.toNat, by omega⟩
    have hk : k < ids.length := by omega
    have hk2 : k < m.ths.length := by omega
    have e1 : ids[k]? = some ids[k] := by simp [hk]
    have e2 : m.ths[k]? = some m.ths[k] := by simp [hk2]
    refine .inr ⟨k, ids[k], m.ths[k], rfl, e1, e2, ?_, ?_, h.ths k _ _ e1 e2⟩
    · unfold thPtr; rw [if_pos hw]; simp [hk]
    · unfold M.th; rw [if_pos (by omega)]; simp [hk2]
  · refine .inl ⟨?_, ?_⟩
    · unfold thPtr; rw [if_neg hw]
    · unfold M.th; rw [if_neg (by omega)]

theorem word_is (C Qr : Nat → Prop) (tb bb room : Nat) (t : Th) (i : Ins) (w : World) (h : ThRep w C Qr tb bb room t) (ha : i.a < 16) :
    Calls Try.prog 92 #[.pointer (some ⟨tb, 0, none⟩), .agg (insC i).toArray] w fun e w' => e = .returned (.int .i64 (t.word i)) ∧ Fr (fun _ => False) w w' := by
  obtain ⟨g0, ⟨ca, cc, hb, _⟩, _⟩ := h
  obtain ⟨k, op, d, a, b, n, to⟩ := i
  unfold Th.word
  dsimp only [insC] at *
  by_cases h0 : a < 0
  · rw [if_pos h0]
    clear hb
    go_enter Try.func92, Try.ntmps92
    go_wp2_with (first | still_step | (with_reducible first | refine wpStill_nil ?_ | refine Flow.Both.mk ?_ ?_ | exact True.intro) | (with_reducible refine Flow.same_mk rfl rfl rfl ?_; go_simp; done) | (with_reducible exact Flow.same_un rfl rfl rfl) | (refine Flow.region_still mixed ?hB ?_; (case hB => decide +kernel)))
    go_ret
    exact ⟨rfl, by (with_reducible repeat' (first | exact Fr.refl _ _ | apply Fr.alloc | apply Fr.drew | apply Fr.drewN | refine Fr.setCell ?_ ?_ _))⟩
  · rw [if_neg h0]
    obtain ⟨x, rfl⟩ : ∃ x : Nat, a = x := ⟨a.toNat, by omega⟩
    have hx : x < 16 := by omega
    have q := thr hb g0 hx
    have hlt := hb.lt
    unfold Th.reg
    rw [show ((x : Nat) : Int).toNat = x by simp]
    generalize t.regs.getD x 0 = g at *
    clear hb g0
    go_enter Try.func92, Try.ntmps92
    go_wp2_with (first | still_step | (with_reducible first | refine wpStill_nil ?_ | refine Flow.Both.mk ?_ ?_ | exact True.intro) | (with_reducible refine Flow.same_mk rfl rfl rfl ?_; go_simp; done) | (with_reducible exact Flow.same_un rfl rfl rfl) | (refine Flow.region_still mixed ?hB ?_; (case hB => decide +kernel)))
    go_ret
    refine ⟨?_, by (with_reducible repeat' (first | exact Fr.refl _ _ | apply Fr.alloc | apply Fr.drew | apply Fr.drewN | refine Fr.setCell ?_ ?_ _))⟩
    rw [← IntWalk.i64_left]
    rfl

def wordPtr (ma : Option Addr) (n : Nat) (w : Int) : Option Addr := if 0 ≤ w ∧ w < n then ma.map fun a => ⟨a.block, a.off + w.toNat, none⟩ else none

theorem at_is (B : Nat) (ma : Option Addr) (mc n : Nat) (x : Int) (w : World) (hB : w.cell? ⟨B, 1, none⟩ = some (.slice ma n mc)) (hma : n = 0 ∨ ∃ r off, ma = some ⟨r, off, none⟩) :
    Calls Try.prog 81 #[.pointer (some ⟨B, 0, none⟩), .int .i64 x] w fun e w' => e = .returned (.pointer (wordPtr ma n x)) ∧ Fr (fun _ => False) w w' := by
  have hlt := World.block_lt_of_cell? _ _ hB
  dsimp only at hlt
  unfold wordPtr
  by_cases h0 : 0 ≤ x
  · by_cases h1 : x < n
    · obtain ⟨k, rfl⟩ : ∃ k : Nat, x = k := ⟨x.toNat, by omega⟩
      obtain ⟨r, off, rfl⟩ := hma.resolve_left (by omega)
      rw [if_pos ⟨h0, h1⟩]
      go_enter Try.func81, Try.ntmps81
      go_wp2_with (first | still_step | (with_reducible first | refine wpStill_nil ?_ | refine Flow.Both.mk ?_ ?_ | exact True.intro) | (with_reducible refine Flow.same_mk rfl rfl rfl ?_; go_simp; done) | (with_reducible exact Flow.same_un rfl rfl rfl) | (refine Flow.region_still mixed ?hB ?_; (case hB => decide +kernel)))
      go_ret
      exact ⟨by simp, by (with_reducible repeat' (first | exact Fr.refl _ _ | apply Fr.alloc | apply Fr.drew | apply Fr.drewN | refine Fr.setCell ?_ ?_ _))⟩
    · rw [if_neg (fun h => h1 h.2)]
      go_enter Try.func81, Try.ntmps81
      go_wp2_with (first | still_step | (with_reducible first | refine wpStill_nil ?_ | refine Flow.Both.mk ?_ ?_ | exact True.intro) | (with_reducible refine Flow.same_mk rfl rfl rfl ?_; go_simp; done) | (with_reducible exact Flow.same_un rfl rfl rfl) | (refine Flow.region_still mixed ?hB ?_; (case hB => decide +kernel)))
      go_ret
      exact ⟨rfl, by (with_reducible repeat' (first | exact Fr.refl _ _ | apply Fr.alloc | apply Fr.drew | apply Fr.drewN | refine Fr.setCell ?_ ?_ _))⟩
  · rw [if_neg (fun h => h0 h.1)]
    go_enter Try.func81, Try.ntmps81
    go_wp2_with (first | still_step | (with_reducible first | refine wpStill_nil ?_ | refine Flow.Both.mk ?_ ?_ | exact True.intro) | (with_reducible refine Flow.same_mk rfl rfl rfl ?_; go_simp; done) | (with_reducible exact Flow.same_un rfl rfl rfl) | (refine Flow.region_still mixed ?hB ?_; (case hB => decide +kernel)))
    go_ret
    exact ⟨rfl, by (with_reducible repeat' (first | exact Fr.refl _ _ | apply Fr.alloc | apply Fr.drew | apply Fr.drewN | refine Fr.setCell ?_ ?_ _))⟩

def noneI : Ins := ⟨0, 0, 0, 0, 0, 0, 0⟩
def M.next (m : M) (who : Int) : Option Ins := (m.th who).bind Th.next

theorem szINS : (Try.prog.info? 57).map (·.size) = some 7 := by kernel_rfl
theorem unINS : ∃ d, Try.prog.underlying 57 = some d ∧ d.isRow = true := ⟨_, Try.underlying57, rfl⟩

theorem fr_weaken {w w1 w2 : World} {b : Nat} (h : Fr (fun _ => False) w w1) (h2 : Fr (fun k => k = b) w1 w2) (hb : w.heap.size ≤ b) : Fr (fun _ => False) w w2 := h.trans h2 (fun k hk e => by omega)

set_option maxHeartbeats 1000000 in
theorem next_is (B : Nat) (R : Nat → Prop) (ids : List (Nat × Nat)) (m : M) (who : Int) (w : World) (h : MR w R B ids m) :
    Calls Try.prog 55 #[.pointer (some ⟨B, 0, none⟩), .int .i64 who] w fun e w' => e = .returned (.tuple #[.agg (insC ((m.next who).getD noneI)).toArray, .bool (m.next who).isSome]) ∧ Fr (fun _ => False) w w' := by
  have HR := hid h
  obtain ⟨Q, h⟩ := h
  obtain ⟨r, hr⟩ : ∃ r, r = m.next who := ⟨_, rfl⟩
  rw [← hr]
  have HE := hid (Blk.new w (insC noneI).toArray 57)
  obtain ⟨d7, hd7, hd8⟩ := unINS
  rcases th_cases h who with ⟨h1, h2⟩ | ⟨k, p, t, rfl, hp, ht, h1, h2, hrep⟩
  · have e : r = none := by rw [hr]; unfold M.next; rw [h2]; rfl
    subst e
    clear hr h h2
    go_enter Try.func55, Try.ntmps55
    go_wp2_with (first | still_step | (with_reducible first | refine wpStill_nil ?_ | refine Flow.Both.mk ?_ ?_ | exact True.intro) | (with_reducible refine Flow.same_mk rfl rfl rfl ?_; go_simp; done) | (with_reducible exact Flow.same_un rfl rfl rfl) | (with_reducible refine Flow.region_flow (id := 4) [0, 1, 3, 7, 0, 16, 48, 112, 255, 511, 1023, 2047] 1024 1006 [(0, none), (1, none), (2, none), (3, none), (4, none), (5, none), (6, none), (7, none), (8, none), (9, none), (10, some []), (11, none)] mixed ?hB ?_; (case hB => decide +kernel); simp only [Flow.textOf, Flow.q1, Flow.q2, Flow.q3, Flow.q4, Flow.q5, Flow.q6, Flow.q7, Flow.q8, Flow.q9, Flow.wpFl, Flow.SameAll]) | (refine Flow.region_still mixed ?hB ?_; (case hB => decide +kernel)))
    go_at_call 62
    refine (get_is B R ids m _ _ (HR.out.fr (S := fun _ => False) (by (with_reducible repeat' (first | exact Fr.refl _ _ | apply Fr.alloc | apply Fr.drew | apply Fr.drewN | refine Fr.setCell ?_ ?_ _))) (fun _ _ h => h))).mono ?_
    rintro e w1 ⟨rfl, hf⟩
    rw [h1]
    have HF := hid (show Fr (fun _ => False) w w1 from (show Fr (fun _ => False) w _ by (with_reducible repeat' (first | exact Fr.refl _ _ | apply Fr.alloc | apply Fr.drew | apply Fr.drewN | refine Fr.setCell ?_ ?_ _))).trans hf (fun _ _ h => h))
    have HE1 := hid (HE.out.fr hf (fun h => h))
    clear hf
    go_wp2_with (first | (refine wpList_storeW (b := w.heap.size) (C := (insC noneI).toArray) (T := 57) (by first | exact HE1.out | exact HE1.out.drew) (by rfl) (by rfl) (by rfl) (by rfl) (by rfl) szINS (by rfl) ?_; intro w2 hb2 hf2 hs2; have HB2 := hid hb2; have HF2 := hid (fr_weaken (by first | exact HF.out | exact HF.out.drew) hf2 (Nat.le_refl _)); clear hb2 hf2) | still_step | (with_reducible first | refine wpStill_nil ?_ | refine Flow.Both.mk ?_ ?_ | exact True.intro) | (with_reducible refine Flow.same_mk rfl rfl rfl ?_; go_simp; done) | (with_reducible exact Flow.same_un rfl rfl rfl) | (with_reducible refine Flow.region_flow (id := 4) [0, 1, 3, 7, 0, 16, 48, 112, 255, 511, 1023, 2047] 1024 1006 [(0, none), (1, none), (2, none), (3, none), (4, none), (5, none), (6, none), (7, none), (8, none), (9, none), (10, some []), (11, none)] mixed ?hB ?_; (case hB => decide +kernel); simp only [Flow.textOf, Flow.q1, Flow.q2, Flow.q3, Flow.q4, Flow.q5, Flow.q6, Flow.q7, Flow.q8, Flow.q9, Flow.wpFl, Flow.SameAll]) | (refine Flow.region_still mixed ?hB ?_; (case hB => decide +kernel)))
    have hres := fun (tmps : Array Value) (w : World) (b : Nat) (ha : tmps.getD 4 undef = .pointer (some ⟨b, 0, none⟩)) (hb : Blk w b (insC noneI).toArray 57) => results_ct (P := Try.prog) Try.results55 ha hb hd7 hd8 szINS
    refine bodyPost_ret (hres _ _ _ rfl HB2.out) rfl ?_
    exact ⟨rfl, HF2.out⟩
  · obtain ⟨g0, ⟨ca, cc, hb, ho⟩, _⟩ := hrep
    have b1 := th1 hb
    have b2 := th2 hb
    have b19 := th19 hb g0
    have hlt := hb.lt
    have HO := hid ho
    have hrn : r = t.next := by rw [hr]; unfold M.next; rw [h2]; rfl
    clear hr h h2 ho hb g0
    by_cases hx : t.over = false ∧ 0 ≤ t.place ∧ t.place < t.code.length
    · obtain ⟨x1, x2, x3⟩ := hx
      obtain ⟨j, hj⟩ : ∃ j : Nat, t.place = j := ⟨t.place.toNat, by omega⟩
      have hjl : j < t.code.length := by omega
      have hn : r = some t.code[j] := by rw [hrn]; unfold Th.next; rw [if_pos ⟨x1, x2, x3⟩, hj]; simp [hjl]
      have hne : codeC t.code ≠ [] := fun e => by have := codeC_length t.code; rw [e] at this; simp at this; omega
      obtain ⟨rc, offc, rfl, _, hc⟩ := HO.out.vw.cell hne
      have hjc : t.code[j]? = some t.code[j] := by simp [hjl]
      rw [hn]
      generalize t.code[j] = ins at *
      obtain ⟨ik, iop, id, ia, ib, im, ito⟩ := ins
      have q0 := hc (j * 7) _ (codeC_get t.code j _ hjc 0 _ rfl)
      have q1 : w.cell? ⟨rc, offc + j * 7 + 1, none⟩ = _ := hc (j * 7 + 1) _ (codeC_get t.code j _ hjc 1 _ rfl)
      have q2 : w.cell? ⟨rc, offc + j * 7 + 2, none⟩ = _ := hc (j * 7 + 2) _ (codeC_get t.code j _ hjc 2 _ rfl)
      have q3 : w.cell? ⟨rc, offc + j * 7 + 3, none⟩ = _ := hc (j * 7 + 3) _ (codeC_get t.code j _ hjc 3 _ rfl)
      have q4 : w.cell? ⟨rc, offc + j * 7 + 4, none⟩ = _ := hc (j * 7 + 4) _ (codeC_get t.code j _ hjc 4 _ rfl)
      have q5 : w.cell? ⟨rc, offc + j * 7 + 5, none⟩ = _ := hc (j * 7 + 5) _ (codeC_get t.code j _ hjc 5 _ rfl)
      have q6 : w.cell? ⟨rc, offc + j * 7 + 6, none⟩ = _ := hc (j * 7 + 6) _ (codeC_get t.code j _ hjc 6 _ rfl)
      have hrl := World.block_lt_of_cell? _ _ q0
      dsimp only at hrl q0
      rw [hj] at b2
      rw [x1] at b19
      clear hn hrn hjc hc hne HO x1 x2 x3 hj
      generalize t.code.length = L at *
      go_enter Try.func55, Try.ntmps55
      go_wp2_with (first | still_step | (with_reducible first | refine wpStill_nil ?_ | refine Flow.Both.mk ?_ ?_ | exact True.intro) | (with_reducible refine Flow.same_mk rfl rfl rfl ?_; go_simp; done) | (with_reducible exact Flow.same_un rfl rfl rfl) | (with_reducible refine Flow.region_flow (id := 4) [0, 1, 3, 7, 0, 16, 48, 112, 255, 511, 1023, 2047] 1024 1006 [(0, none), (1, none), (2, none), (3, none), (4, none), (5, none), (6, none), (7, none), (8, none), (9, none), (10, some []), (11, none)] mixed ?hB ?_; (case hB => decide +kernel); simp only [Flow.textOf, Flow.q1, Flow.q2, Flow.q3, Flow.q4, Flow.q5, Flow.q6, Flow.q7, Flow.q8, Flow.q9, Flow.wpFl, Flow.SameAll]) | (refine Flow.region_still mixed ?hB ?_; (case hB => decide +kernel)))
      go_at_call 62
      refine (get_is B R ids m _ _ (HR.out.fr (S := fun _ => False) (by (with_reducible repeat' (first | exact Fr.refl _ _ | apply Fr.alloc | apply Fr.drew | apply Fr.drewN | refine Fr.setCell ?_ ?_ _))) (fun _ _ h => h))).mono ?_
      rintro e w1 ⟨rfl, hf⟩
      rw [h1]
      have HF := hid (show Fr (fun _ => False) w w1 from (show Fr (fun _ => False) w _ by (with_reducible repeat' (first | exact Fr.refl _ _ | apply Fr.alloc | apply Fr.drew | apply Fr.drewN | refine Fr.setCell ?_ ?_ _))).trans hf (fun _ _ h => h))
      have HE1 := hid (HE.out.fr hf (fun h => h))
      have b1_ := Fr.cell HF.out b1 (fun h => h)
      clear b1
      have b1 := b1_
      clear b1_
      have b2_ := Fr.cell HF.out b2 (fun h => h)
      clear b2
      have b2 := b2_
      clear b2_
      have b19_ := Fr.cell HF.out b19 (fun h => h)
      clear b19
      have b19 := b19_
      clear b19_
      have q0_ := Fr.cell HF.out q0 (fun h => h)
      clear q0
      have q0 := q0_
      clear q0_
      have q1_ := Fr.cell HF.out q1 (fun h => h)
      clear q1
      have q1 := q1_
      clear q1_
      have q2_ := Fr.cell HF.out q2 (fun h => h)
      clear q2
      have q2 := q2_
      clear q2_
      have q3_ := Fr.cell HF.out q3 (fun h => h)
      clear q3
      have q3 := q3_
      clear q3_
      have q4_ := Fr.cell HF.out q4 (fun h => h)
      clear q4
      have q4 := q4_
      clear q4_
      have q5_ := Fr.cell HF.out q5 (fun h => h)
      clear q5
      have q5 := q5_
      clear q5_
      have q6_ := Fr.cell HF.out q6 (fun h => h)
      clear q6
      have q6 := q6_
      clear q6_
      clear hf
      go_wp2_with (first | (refine wpList_storeW (b := w.heap.size) (C := (insC noneI).toArray) (T := 57) (by first | exact HE1.out | exact HE1.out.drew | exact HE1.out.drew.drew) (by rfl) (by rfl) (by rfl) (by rfl) (by rfl) szINS (by rfl) ?_; intro w2 hb2 hf2 hs2; have HB2 := hid hb2; have HF2 := hid (fr_weaken (by first | exact HF.out | exact HF.out.drew | exact HF.out.drew.drew) hf2 (Nat.le_refl _)); clear hb2 hf2) | still_step | (with_reducible first | refine wpStill_nil ?_ | refine Flow.Both.mk ?_ ?_ | exact True.intro) | (with_reducible refine Flow.same_mk rfl rfl rfl ?_; go_simp; done) | (with_reducible exact Flow.same_un rfl rfl rfl) | (with_reducible refine Flow.region_flow (id := 4) [0, 1, 3, 7, 0, 16, 48, 112, 255, 511, 1023, 2047] 1024 1006 [(0, none), (1, none), (2, none), (3, none), (4, none), (5, none), (6, none), (7, none), (8, none), (9, none), (10, some []), (11, none)] mixed ?hB ?_; (case hB => decide +kernel); simp only [Flow.textOf, Flow.q1, Flow.q2, Flow.q3, Flow.q4, Flow.q5, Flow.q6, Flow.q7, Flow.q8, Flow.q9, Flow.wpFl, Flow.SameAll]) | (refine Flow.region_still mixed ?hB ?_; (case hB => decide +kernel)))
      have hres := fun (C : Array Value) (hC : C.size = 7) (tmps : Array Value) (w : World) (b : Nat) (ha : tmps.getD 4 undef = .pointer (some ⟨b, 0, none⟩)) (hb : Blk w b C 57) => results_ct (P := Try.prog) Try.results55 ha hb hd7 hd8 (by rw [hC]; exact szINS)
      refine bodyPost_ret (hres _ rfl _ _ _ rfl HB2.out) rfl ?_
      exact ⟨rfl, HF2.out⟩
    · have e : r = none := by rw [hrn]; unfold Th.next; rw [if_neg hx]
      subst e
      clear HO hrn
      generalize t.code.length = L at *
      generalize t.place = pl at *
      generalize t.over = ov at *
      have hc3 : ov = true ∨ (ov = false ∧ pl < 0) ∨ (ov = false ∧ 0 ≤ pl ∧ (L : Int) ≤ pl) := by
        cases ov with
        | true => exact .inl rfl
        | false =>
          by_cases hp0 : pl < 0
          · exact .inr (.inl ⟨rfl, hp0⟩)
          · refine .inr (.inr ⟨rfl, by omega, ?_⟩)
            rcases Int.lt_or_le pl L with h | h
            · exact absurd ⟨rfl, by omega, h⟩ hx
            · exact h
      clear hx
      rcases hc3 with rfl | ⟨rfl, y⟩ | ⟨rfl, y, y2⟩
      all_goals
        go_enter Try.func55, Try.ntmps55
        go_wp2_with (first | still_step | (with_reducible first | refine wpStill_nil ?_ | refine Flow.Both.mk ?_ ?_ | exact True.intro) | (with_reducible refine Flow.same_mk rfl rfl rfl ?_; go_simp; done) | (with_reducible exact Flow.same_un rfl rfl rfl) | (with_reducible refine Flow.region_flow (id := 4) [0, 1, 3, 7, 0, 16, 48, 112, 255, 511, 1023, 2047] 1024 1006 [(0, none), (1, none), (2, none), (3, none), (4, none), (5, none), (6, none), (7, none), (8, none), (9, none), (10, some []), (11, none)] mixed ?hB ?_; (case hB => decide +kernel); simp only [Flow.textOf, Flow.q1, Flow.q2, Flow.q3, Flow.q4, Flow.q5, Flow.q6, Flow.q7, Flow.q8, Flow.q9, Flow.wpFl, Flow.SameAll]) | (refine Flow.region_still mixed ?hB ?_; (case hB => decide +kernel)))
        go_at_call 62
        refine (get_is B R ids m _ _ (HR.out.fr (S := fun _ => False) (by (with_reducible repeat' (first | exact Fr.refl _ _ | apply Fr.alloc | apply Fr.drew | apply Fr.drewN | refine Fr.setCell ?_ ?_ _))) (fun _ _ h => h))).mono ?_
        rintro e w1 ⟨rfl, hf⟩
        rw [h1]
        have HF := hid (show Fr (fun _ => False) w w1 from (show Fr (fun _ => False) w _ by (with_reducible repeat' (first | exact Fr.refl _ _ | apply Fr.alloc | apply Fr.drew | apply Fr.drewN | refine Fr.setCell ?_ ?_ _))).trans hf (fun _ _ h => h))
        have HE1 := hid (HE.out.fr hf (fun h => h))
        have b1_ := Fr.cell HF.out b1 (fun h => h)
        clear b1
        have b1 := b1_
        clear b1_
        have b2_ := Fr.cell HF.out b2 (fun h => h)
        clear b2
        have b2 := b2_
        clear b2_
        have b19_ := Fr.cell HF.out b19 (fun h => h)
        clear b19
        have b19 := b19_
        clear b19_
        clear hf
        go_wp2_with (first | (refine wpList_storeW (b := w.heap.size) (C := (insC noneI).toArray) (T := 57) (by first | exact HE1.out | exact HE1.out.drew) (by rfl) (by rfl) (by rfl) (by rfl) (by rfl) szINS (by rfl) ?_; intro w2 hb2 hf2 hs2; have HB2 := hid hb2; have HF2 := hid (fr_weaken (by first | exact HF.out | exact HF.out.drew) hf2 (Nat.le_refl _)); clear hb2 hf2) | still_step | (with_reducible first | refine wpStill_nil ?_ | refine Flow.Both.mk ?_ ?_ | exact True.intro) | (with_reducible refine Flow.same_mk rfl rfl rfl ?_; go_simp; done) | (with_reducible exact Flow.same_un rfl rfl rfl) | (with_reducible refine Flow.region_flow (id := 4) [0, 1, 3, 7, 0, 16, 48, 112, 255, 511, 1023, 2047] 1024 1006 [(0, none), (1, none), (2, none), (3, none), (4, none), (5, none), (6, none), (7, none), (8, none), (9, none), (10, some []), (11, none)] mixed ?hB ?_; (case hB => decide +kernel); simp only [Flow.textOf, Flow.q1, Flow.q2, Flow.q3, Flow.q4, Flow.q5, Flow.q6, Flow.q7, Flow.q8, Flow.q9, Flow.wpFl, Flow.SameAll]) | (refine Flow.region_still mixed ?hB ?_; (case hB => decide +kernel)))
        have hres := fun (tmps : Array Value) (w : World) (b : Nat) (ha : tmps.getD 4 undef = .pointer (some ⟨b, 0, none⟩)) (hb : Blk w b (insC noneI).toArray 57) => results_ct (P := Try.prog) Try.results55 ha hb hd7 hd8 szINS
        refine bodyPost_ret (hres _ _ _ rfl HB2.out) rfl ?_
        exact ⟨rfl, HF2.out⟩
end Go.Proofs.Ytbfeopakmjcapaa.Tso
