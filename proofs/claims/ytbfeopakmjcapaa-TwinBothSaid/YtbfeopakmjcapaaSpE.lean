/-
  The end of a guess' beginning: the guess is kept, and the thread let stand behind it.
-/
import Derived.Test.YtbfeopakmjcapaaSpC
import Derived.Laws.Tables
import Derived.Great.BuildSlice
set_option linter.unusedVariables false
set_option linter.unusedSimpArgs false
set_option maxHeartbeats 4000000
set_option maxRecDepth 8000
namespace Go.Proofs.Ytbfeopakmjcapaa.Sp
open Go.RowKit Go.Proofs.Ytbfeopakmjcapaa.Seq Go.Proofs.Ytbfeopakmjcapaa.Tso
attribute [local irreducible] wpStill wpList Calls CallsIn

def gsOf (T : Th) (steps : Int) : Gs := ⟨T.place, T.regs, T.over, T.wait.length, steps⟩
theorem infoG : (Try.prog.info? 91).map (fun i => (i.zero, i.size, i.bytes)) = some (some (.agg (gC (⟨0, List.replicate 16 0, false, 0, 0⟩, .slice none 0 0)).toArray), 21, 184) := by kernel_rfl

theorem built_guess (T : Th) (ta : Option Addr) (tc : Nat) (q : Int) (h : T.regs.length = 16) : Try.prog.built 91 [(0, .agg (standV T ta tc).toArray), (1, .int .i64 (T.wait.length : Nat)), (2, .int .i64 q)] = some (gC (gsOf T q, .slice ta T.wait.length tc)).toArray := by
  obtain ⟨code, place, regs, wait, over⟩ := T
  obtain ⟨r0, r1, r2, r3, r4, r5, r6, r7, r8, r9, r10, r11, r12, r13, r14, r15, rfl⟩ := list16 regs h
  kernel_rfl
theorem run_buildG {o : Oper} {a : Act} {w : World} {x y z : Operand} {vT vG : Array Value} {p q : Int} (ho : o.op = .build 91 #[(0, x), (1, y), (2, z)]) (hx : a.eval x = .agg vT) (hy : a.eval y = .int .i64 p) (hz : a.eval z = .int .i64 q)
    (hb : Try.prog.built 91 [(0, .agg vT), (1, .int .i64 p), (2, .int .i64 q)] = some vG) : (execOp a.eval o).run Try.prog w = .ok (.value (.agg vG)) w := by
  unfold execOp
  simp only [ho]
  have := run_build (P := Try.prog) w 91 #[(0, .agg vT), (1, .int .i64 p), (2, .int .i64 q)] vG hb
  simp [hx, hy, hz, this]
theorem fill_guess (g : Gs) (v : Value) (h : g.regs.length = 16) : Instr.fill (fun i => some (i * 21, 21)) ((Array.range (1 * 21)).map ((Value.agg (gC (⟨0, List.replicate 16 0, false, 0, 0⟩, .slice none 0 0)).toArray).cells[· % (Value.agg (gC (⟨0, List.replicate 16 0, false, 0, 0⟩, .slice none 0 0)).toArray).cells.size]!)) [(0, .agg (gC (g, v)).toArray)] = some (gC (g, v)).toArray := by
  obtain ⟨place, regs, over, kept, steps⟩ := g
  obtain ⟨r0, r1, r2, r3, r4, r5, r6, r7, r8, r9, r10, r11, r12, r13, r14, r15, rfl⟩ := list16 regs h
  kernel_rfl
theorem run_rowG {o : Oper} {a : Act} {w : World} {x : Operand} {g : Gs} {v : Value} {vG : Array Value} (hv : vG = (gC (g, v)).toArray) (h : g.regs.length = 16) (ho : o.op = .buildSlice 86 1 #[(0, x)]) (hx : a.eval x = .agg vG) :
    (execOp a.eval o).run Try.prog w = .ok (.value (.slice (some ⟨w.heap.size, 0, none⟩) 1 1)) (w.alloc (.cells vG 91)) := by
  subst hv
  obtain ⟨i0, hi, hz0, hz1, hz2⟩ := info_parts infoG
  have hf := fill_guess g v h
  have := run_buildSlice (P := Try.prog) w 86 91 1 #[(0, .agg (gC (g, v)).toArray)] (gC (g, v)).toArray i0 _ Try.underlying86 hi hz0 (by rw [hz1]; decide) (by rw [hz1]; decide) (by rw [hz1]; exact hf)
  unfold execOp
  simp only [ho]
  simp [hx, this]
theorem same_loadA {P : Program} {ops : Array Oper} {d : Tmp} {ty tt : TypeId} {x : Operand} {ps : String} {af : Array Edge} {g : Option (Nat × Bool)} {a : Act} {w : World} {b : Nat} {C : Array Value} {T : TypeId} {ds : TypeDesc} (zlw : Region.wanted ⟨some d, .load ty x, tt, ps, af, g⟩ (yielded ops a.tmps) = true) (zlv : a.tmps.getD d undef = .agg C)
    (zlx : a.eval x = .pointer (some ⟨b, 0, none⟩)) (zlu : P.underlying ty = some ds) (zld : ds.isRow = true) (zli : (P.info? ty).map (·.size) = some C.size) (zlb : Blk w b C T) : Flow.SameO P ops ⟨some d, .load ty x, tt, ps, af, g⟩ a w :=
  Flow.same_mk zlw rfl zlv (run_loadB C.toList zlb (fun j v hj => by simpa using hj) rfl zlx zlu zld (by simpa using zli))
theorem same_buildG {ops : Array Oper} {d : Tmp} {tt : TypeId} {x y z : Operand} {ps : String} {af : Array Edge} {g : Option (Nat × Bool)} {a : Act} {w : World} {vT vG : Array Value} {p q : Int} (zlw : Region.wanted ⟨some d, .build 91 #[(0, x), (1, y), (2, z)], tt, ps, af, g⟩ (yielded ops a.tmps) = true) (zlv : a.tmps.getD d undef = .agg vG)
    (zlx : a.eval x = .agg vT) (zly : a.eval y = .int .i64 p) (zlz : a.eval z = .int .i64 q) (zlb : Try.prog.built 91 [(0, .agg vT), (1, .int .i64 p), (2, .int .i64 q)] = some vG) : Flow.SameO Try.prog ops ⟨some d, .build 91 #[(0, x), (1, y), (2, z)], tt, ps, af, g⟩ a w :=
  Flow.same_mk zlw rfl zlv (run_buildG rfl zlx zly zlz zlb)

theorem end_is {w : World} {SB B OB oc : Nat} {ids : List (Nat × Nat)} {D : Array Value} {A : Nat → Option Addr} {C : Nat → Nat} {V : Nat → List (Gs × Value)} {G : Nat → Nat → Prop} {Rm R : Nat → Prop} {s : SM} (h : SRep w SB B OB oc ids D A C V G Rm R s) {k : Nat} {o : Op} (hgo : s.op[k]? = some o)
    (T U : Th) (ta ua : Option Addr) (tc uc : Nat) (S : Nat → Prop) (hT : T.regs.length = 16) (hU : U.regs.length = 16) (hvw : Vw w 2 S ua U.wait.length (ent U.wait)) (hS : ∀ z, S z → ¬ R z) (hlen : o.1.length ≤ 1000) (hwl : U.wait.length ≤ 100000) :
    Calls Try.prog 60 #[.pointer (some ⟨SB, 0, none⟩), .int .i64 (k : Int), .pointer (some ⟨OB, k * 2, none⟩), .agg (standV T ta tc).toArray, .agg (standV U ua uc).toArray] w fun e w' => e = .returned (.tuple #[]) ∧ ∃ R', SR w' R' SB (s.guess k o T U) ∧ Mv R R' w w' := by
  obtain ⟨i0, hi, hz0, hz1, hz2⟩ := info_parts infoG
  have HH := hid h
  have HGO := hid hgo
  have HV := hid (h.vals k _ hgo)
  have HVW := hid hvw
  have HS := hid hS
  have hk := (List.getElem?_eq_some_iff.1 hgo).1
  have h0 : w.cell? ⟨SB, 0, none⟩ = some (.pointer (some ⟨B, 0, none⟩)) := h.head.cell 0
  have c0 : w.cell? ⟨OB, k * 2, none⟩ = some (.slice (A k) o.1.length (C k)) := by rw [h.opens.cell]; exact (h.cells k _ hgo).1
  have c1 : w.cell? ⟨OB, k * 2 + 1, none⟩ = some (.int .i64 o.2) := by rw [h.opens.cell]; exact (h.cells k _ hgo).2
  have f0 := h.opens.free (k * 2)
  have f1 := h.opens.free (k * 2 + 1)
  have lsb := h.head.lt
  have lob := h.opens.lt
  have hso := h.two
  obtain ⟨ol, os⟩ := o
  (try dsimp only at c0 c1 hlen)
  obtain ⟨L, hL⟩ : ∃ L, L = ol.length := ⟨_, rfl⟩
  have HLL := hid hL
  rw [← hL] at c0 hlen
  have HOW := hid (show OwnAt w 91 21 (G k) (A k) L (C k) (gsC (V k)) from by have := (h.vals k _ hgo).2.2; (try dsimp only at this); rw [← hL] at this; exact this)
  obtain ⟨aK, haK⟩ : ∃ aK, aK = A k := ⟨_, rfl⟩
  obtain ⟨cK, hcK⟩ : ∃ cK, cK = C k := ⟨_, rfl⟩
  rw [← haK, ← hcK] at HOW c0
  have HAK := hid haK
  have HCK := hid hcK
  obtain ⟨TW, hTW⟩ : ∃ TW, TW = T.wait.length := ⟨_, rfl⟩
  have HTW := hid hTW
  obtain ⟨vT, hvT⟩ : ∃ vT, vT = (standV T ta tc).toArray := ⟨_, rfl⟩
  have HSD := hid (by have := stand_of T ta tc hT; rw [← hvT] at this; exact this : Stand T ta tc vT)
  obtain ⟨vG, hvG⟩ : ∃ vG, vG = (gC (gsOf T os, .slice ta TW tc)).toArray := ⟨_, rfl⟩
  have HVG := hid hvG
  have HBG := hid (by have := built_guess T ta tc os hT; rw [← hvT, ← hTW, ← hvG] at this; exact this : Try.prog.built 91 [(0, .agg vT), (1, .int .i64 (TW : Nat)), (2, .int .i64 os)] = some vG)
  obtain ⟨vU, hvU⟩ : ∃ vU, vU = (standV U ua uc).toArray := ⟨_, rfl⟩
  have HSU := hid (by have := stand_of U ua uc hU; rw [← hvU] at this; exact this : Stand U ua uc vU)
  rw [← hvU, ← hvT]
  have p17 := HSD.out.wait
  rw [← hTW] at p17
  have HT16 := hid hT
  have HU16 := hid hU
  clear h hgo hvw hS hL haK hcK hTW hT hU hvU hvT hvG
  have hl7 : OB < w.heap.size + 1 := by omega
  have hl8 : OB < w.heap.size + 1 + 1 := by omega
  have hn7 : ¬ (OB = w.heap.size) := by omega
  have hn8 : ¬ (OB = w.heap.size + 1) := by omega
  have hn9 : ¬ (OB = w.heap.size + 1 + 1) := by omega
  go_enter Try.func60, Try.ntmps60
  go_wp2_with (first | ((with_reducible apply wpStill_loadA (b := w.heap.size) (o := 0) (C := vT) (T := 45) vT.toList); (case zlw => rfl); (case zlx => rfl); (case zlu => exact unTHR.choose_spec.1); (case zld => exact unTHR.choose_spec.2); (case zli => rw [Array.length_toList, HSD.out.size]; exact szTHR); (case zlb => (repeat (first | with_reducible exact Blk.new _ _ _ | with_reducible apply Blk.drew | with_reducible apply Blk.alloc))); (case zlc => exact fun j v hj => by simpa using hj); simp only [Array.toArray_toList]; refine wpStill_nil ?_; go_simp) | ((with_reducible apply wpList_does (v := .agg vG)); (case zlw => rfl); (case zlr => exact run_buildG rfl rfl rfl rfl HBG.out)) | ((with_reducible apply wpList_does); (case zlw => rfl); (case zlr => exact run_rowG HVG.out HT16.out rfl rfl); simp only [World.alloc_drew, World.size_alloc, World.size_drew]) | ((with_reducible apply same_loadA (b := w.heap.size) (C := vT) (T := 45)); (case zlw => rfl); (case zlv => rfl); (case zlx => rfl); (case zlu => exact unTHR.choose_spec.1); (case zld => exact unTHR.choose_spec.2); (case zli => rw [HSD.out.size]; exact szTHR); (case zlb => (repeat (first | with_reducible exact Blk.new _ _ _ | with_reducible apply Blk.drew | with_reducible apply Blk.alloc)))) | ((with_reducible apply same_buildG (vG := vG)); (case zlw => rfl); (case zlv => rfl); (case zlx => rfl); (case zly => rfl); (case zlz => rfl); (case zlb => exact HBG.out)) | (at_builtin; refine wpList_append_Own _ rfl (.tmp 14) (.tmp 24) 86 rfl 91 i0 (.agg (gC (⟨0, List.replicate 16 0, false, 0, 0⟩, .slice none 0 0)).toArray) 21 184 Try.underlying86 hi hz0 hz1 hz2 rfl (by decide) (G k) (fun _ => True) aK L cK (gsC (V k)) rfl ?own (some ⟨w.heap.size + 1 + 1, 0, none⟩) 1 1 (gsC [(gsOf T os, .slice ta TW tc)]) rfl ?vw ?one ?b1 ?b2 ?grow) | still_step | (with_reducible first | refine wpStill_nil ?_ | refine Flow.Both.mk ?_ ?_ | exact True.intro) | (with_reducible refine Flow.same_mk rfl rfl rfl ?_; go_simp; done) | (with_reducible exact Flow.same_un rfl rfl rfl) | (with_reducible refine Flow.region_flow (id := 1) [0, 0, 2, 6, 14, 0, 0, 64, 192, 0, 512, 1536, 3584, 8160, 16352, 32766, 65535, 131071, 262143] 319488 204284 [(0, none), (1, none), (2, none), (3, none), (4, none), (5, none), (6, none), (7, none), (8, none), (9, none), (10, none), (11, none), (12, none), (13, some [2, 3, 4]), (14, some [2, 3, 4]), (15, some []), (16, none), (17, none), (18, some [])] mixed ?hB ?_; (case hB => decide +kernel); simp only [Flow.textOf, Flow.q1, Flow.q2, Flow.q3, Flow.q4, Flow.q5, Flow.q6, Flow.q7, Flow.q8, Flow.q9, Flow.wpFl, Flow.SameAll]) | (with_reducible refine Flow.region_flow (id := 3) [0, 1, 3, 7, 0, 0, 63] 64 46 [(0, none), (1, none), (2, none), (3, none), (4, none), (5, none), (6, some [])] mixed ?hB ?_; (case hB => decide +kernel); simp only [Flow.textOf, Flow.q1, Flow.q2, Flow.q3, Flow.q4, Flow.q5, Flow.q6, Flow.q7, Flow.q8, Flow.q9, Flow.wpFl, Flow.SameAll]) | (refine Flow.region_still mixed ?hB ?_; (case hB => decide +kernel)))
  case own => exact HOW.out.fr (S := fun _ => False) (by (with_reducible repeat' (first | exact Fr.refl _ _ | apply Fr.alloc | apply Fr.drew | apply Fr.drewN | refine Fr.setCell ?_ ?_ _))) (fun _ _ h => h)
  case vw =>
    have key : ∀ W : World, Blk W (w.heap.size + 1 + 1) vG 91 → Vw W 21 (fun _ => True) (some ⟨w.heap.size + 1 + 1, 0, none⟩) 1 (gsC [(gsOf T os, .slice ta TW tc)]) := fun W hb => by
      have hvl : vG.toList = gsC [(gsOf T os, .slice ta TW tc)] := by rw [HVG.out]; simp [gsC]
      have hvs : vG.size = 21 := by rw [HVG.out, List.size_toArray, gC_length]; exact HT16.out
      have := Vw.of_blk (sz := 21) (n := 1) (R := fun _ => True) hb trivial (by omega)
      rw [hvl] at this
      exact this
    exact key _ (by (repeat (with_reducible apply Blk.drew)); exact Blk.new' (by simp))
  case one => exact gsC_one (fun p hp => by rw [List.mem_singleton] at hp; subst hp; rfl)
  case b1 => unfold maxLen; omega
  case b2 => omega
  case grow =>
    intro ao' cap' w1 ho1 hf1
    have hfw : Fr (G k) w w1 := (show Fr (G k) w _ by (with_reducible repeat' (first | exact Fr.refl _ _ | apply Fr.alloc | apply Fr.drew | apply Fr.drewN | refine Fr.setCell ?_ ?_ _))).trans hf1 (fun _ _ h => h)
    have hno : ¬ G k OB := fun h => (HH.out.offG k _ h).2 rfl
    have hns : ¬ G k SB := fun h => (HH.out.offG k _ h).1 rfl
    have hx2 : Blk w1 (w.heap.size + 1) vU 45 := Blk.fr (S := G k) (by (repeat (with_reducible apply Blk.drew)); exact (Blk.new' (w := w.alloc _) (by simp)).alloc _) hf1 (fun h => by have := HH.out.lt _ (HH.out.inG k _ h); omega)
    have HX2 := hid hx2
    have h0 := hfw.cell h0 hns
    have c0 := hfw.cell c0 hno
    have c1 := hfw.cell c1 hno
    have hob := HH.out.opens.fr hfw hno
    have f0 := hob.free (k * 2)
    have f1 := hob.free (k * 2 + 1)
    have lob1 : OB < w1.heap.size := World.block_lt_of_cell? _ _ c0
    have lsb1 : SB < w1.heap.size := World.block_lt_of_cell? _ _ h0
    have lx1 := hx2.lt
    have hn1 : ¬ (OB = w.heap.size + 1) := by omega
    have hn2 : ¬ (w.heap.size + 1 = OB) := by omega
    have hn3 : ¬ (SB = OB) := HH.out.two
    have HOB := hid hob
    have HO1 := hid ho1
    have HF1 := hid hfw
    clear ho1 hf1 hfw hno hns hx2 hob p17 lsb lob hl7 hl8 hn7 hn8 hn9
    go_wp2_with (first | ((with_reducible apply wpStill_loadA (b := w.heap.size + 1) (o := 0) (C := vU) (T := 45) vU.toList); (case zlw => rfl); (case zlx => rfl); (case zlu => exact unTHR.choose_spec.1); (case zld => exact unTHR.choose_spec.2); (case zli => rw [Array.length_toList, HSU.out.size]; exact szTHR); (case zlb => (repeat (first | with_reducible exact HX2.out | with_reducible apply Blk.drew | (with_reducible refine Blk.set_ne ?_ hn2 _)))); (case zlc => exact fun j v hj => by simpa using hj); simp only [Array.toArray_toList]; refine wpStill_nil ?_; go_simp) | still_step | (with_reducible first | refine wpStill_nil ?_ | refine Flow.Both.mk ?_ ?_ | exact True.intro) | (with_reducible refine Flow.same_mk rfl rfl rfl ?_; go_simp; done) | (with_reducible exact Flow.same_un rfl rfl rfl) | (with_reducible refine Flow.region_flow (id := 1) [0, 0, 2, 6, 14, 0, 0, 64, 192, 0, 512, 1536, 3584, 8160, 16352, 32766, 65535, 131071, 262143] 319488 204284 [(0, none), (1, none), (2, none), (3, none), (4, none), (5, none), (6, none), (7, none), (8, none), (9, none), (10, none), (11, none), (12, none), (13, some [2, 3, 4]), (14, some [2, 3, 4]), (15, some []), (16, none), (17, none), (18, some [])] mixed ?hB ?_; (case hB => decide +kernel); simp only [Flow.textOf, Flow.q1, Flow.q2, Flow.q3, Flow.q4, Flow.q5, Flow.q6, Flow.q7, Flow.q8, Flow.q9, Flow.wpFl, Flow.SameAll]) | (with_reducible refine Flow.region_flow (id := 3) [0, 1, 3, 7, 0, 0, 63] 64 46 [(0, none), (1, none), (2, none), (3, none), (4, none), (5, none), (6, some [])] mixed ?hB ?_; (case hB => decide +kernel); simp only [Flow.textOf, Flow.q1, Flow.q2, Flow.q3, Flow.q4, Flow.q5, Flow.q6, Flow.q7, Flow.q8, Flow.q9, Flow.wpFl, Flow.SameAll]) | (refine Flow.region_still mixed ?hB ?_; (case hB => decide +kernel)))
    go_at_call 61
    refine Calls.named fun wc hwc => ?_
    have hb9 : Blk wc OB ((D.setIfInBounds (k * 2) (.slice ao' (L + 1) cap')).setIfInBounds (k * 2 + 1) (.int .i64 (wrap64 (os + 1)))) 88 := by rw [hwc]; exact ((HOB.out.set _ _).set _ _)
    have hfc : Fr (fun z => z = OB) w1 wc := by rw [hwc]; exact Fr.drew (Fr.setCell (S := fun z => z = OB) (Fr.setCell (S := fun z => z = OB) (Fr.refl _ w1) (fun _ => rfl) _) (fun _ => rfl) _)
    have hsz : wc.heap.size = w1.heap.size := by rw [hwc]; simp
    have hfwc : Fr (fun z => z = OB ∨ G k z) w wc := (HF1.out.mono (fun z _ h => .inr h)).trans hfc (fun z _ h => .inl h)
    have hmc : MR wc Rm B ids s.x := HH.out.mr.fr hfwc (fun z hz e => e.elim (fun e => HH.out.notS.2 (e ▸ hz)) (fun e => HH.out.notG k z e hz))
    have hvc := HVW.out.fr hfwc (fun z hz e => HS.out z hz (e.elim (fun e => e ▸ HH.out.inS.2) (fun e => HH.out.inG k z e)))
    have hpi := put_is B Rm S ids s.x (k : Int) U ua uc wc hmc HU16.out hvc (fun z hz hr => HS.out z hz (HH.out.inM z hr)) hwl
    rw [← HSU.out.eq] at hpi
    refine hpi.mono ?_
    rintro e w9 ⟨rfl, Rm9, hm9, hv9⟩
    have HB9 := hid hb9
    have HFC := hid hfc
    have HSZ := hid hsz
    have HFWC := hid hfwc
    have HM9 := hid hm9
    have HV9 := hid hv9
    clear hb9 hfc hsz hfwc hmc hvc hpi hm9 hv9 hwc
    go_wp2_with (first | still_step | (with_reducible first | refine wpStill_nil ?_ | refine Flow.Both.mk ?_ ?_ | exact True.intro) | (with_reducible refine Flow.same_mk rfl rfl rfl ?_; go_simp; done) | (with_reducible exact Flow.same_un rfl rfl rfl) | (with_reducible refine Flow.region_flow (id := 1) [0, 0, 2, 6, 14, 0, 0, 64, 192, 0, 512, 1536, 3584, 8160, 16352, 32766, 65535, 131071, 262143] 319488 204284 [(0, none), (1, none), (2, none), (3, none), (4, none), (5, none), (6, none), (7, none), (8, none), (9, none), (10, none), (11, none), (12, none), (13, some [2, 3, 4]), (14, some [2, 3, 4]), (15, some []), (16, none), (17, none), (18, some [])] mixed ?hB ?_; (case hB => decide +kernel); simp only [Flow.textOf, Flow.q1, Flow.q2, Flow.q3, Flow.q4, Flow.q5, Flow.q6, Flow.q7, Flow.q8, Flow.q9, Flow.wpFl, Flow.SameAll]) | (with_reducible refine Flow.region_flow (id := 3) [0, 1, 3, 7, 0, 0, 63] 64 46 [(0, none), (1, none), (2, none), (3, none), (4, none), (5, none), (6, some [])] mixed ?hB ?_; (case hB => decide +kernel); simp only [Flow.textOf, Flow.q1, Flow.q2, Flow.q3, Flow.q4, Flow.q5, Flow.q6, Flow.q7, Flow.q8, Flow.q9, Flow.wpFl, Flow.SameAll]) | (refine Flow.region_still mixed ?hB ?_; (case hB => decide +kernel)))
    go_end0
    have hf9 : Fr (fun z => z = OB ∨ G k z ∨ Rm z) w w9 := (HFWC.out.mono (fun z _ h => h.imp id .inl)).trans HV9.out.2.2 (fun z _ h => .inr (.inr h))
    have hs1 := HF1.out.size
    have hrow : OwnAt w9 91 21 (fun z => G k z ∨ (w.heap.size ≤ z ∧ z < w1.heap.size)) ao' (V k ++ [(gsOf T os, Value.slice ta TW tc)]).length cap' (gsC (V k ++ [(gsOf T os, Value.slice ta TW tc)])) := by
      have hvl : (V k).length = L := by have := congrArg List.length HV.out.1; (try dsimp only at this); rw [List.length_map] at this; rw [HLL.out]; exact this
      rw [gsC_append, List.length_append, List.length_singleton, hvl]
      refine ((HO1.out.mono (R2 := fun z => G k z ∨ (w.heap.size ≤ z ∧ z < w1.heap.size)) (fun z hz h => h.imp id (fun h => ⟨by (try simp at h); omega, hz⟩))).fr HFC.out (fun z hz e => ?_)).fr HV9.out.2.2 (fun z hz e => ?_)
      · subst e
        rcases hz with hz | hz
        · exact (HH.out.offG k _ hz).2 rfl
        · have := HH.out.lt _ HH.out.inS.2; omega
      · rcases hz with hz | hz
        · exact HH.out.notG k z hz e
        · have := HH.out.lt _ (HH.out.inM z e); omega
    have hvl : (V k).length = L := by have := congrArg List.length HV.out.1; (try dsimp only at this); rw [List.length_map] at this; rw [HLL.out]; exact this
    have hds := HH.out.size
    have hu := HH.out.upd HGO.out hf9 (a' := ao') (c' := cap') (vs := V k ++ [(gsOf T os, Value.slice ta TW tc)]) (Gn := fun z => G k z ∨ (w.heap.size ≤ z ∧ z < w1.heap.size)) (Rm' := Rm9) (st := wrap64 (os + 1)) (HB9.out.fr HV9.out.2.2 HH.out.notS.2) (by simp)
      ⟨by rw [Array.getElem?_setIfInBounds_ne (by omega), Array.getElem?_setIfInBounds_self_of_lt (by omega), List.length_append, hvl]; rfl, by rw [Array.getElem?_setIfInBounds_self_of_lt (by simp; omega)]⟩
      (fun j h1 h2 => by rw [Array.getElem?_setIfInBounds_ne (by omega), Array.getElem?_setIfInBounds_ne (by omega)])
      (fun p hp => by
        rcases List.mem_append.1 hp with hp | hp
        · exact HV.out.2.1 p hp
        · rw [List.mem_singleton] at hp; subst hp; exact ⟨rfl, HT16.out⟩) hrow HM9.out
      (fun z hz => ⟨hz.imp id (fun h => h.1), hz.elim (fun h => Nat.lt_of_lt_of_le (HH.out.lt z (HH.out.inG k z h)) hf9.size) (fun h => by have := HV9.out.2.2.size; have := HSZ.out; omega)⟩)
      (fun z hz => (HV9.out.2.1 z hz).imp id (fun h => by have := HSZ.out; omega))
      (fun z hz hm => by
        rcases HV9.out.2.1 z hm with h' | h'
        · rcases hz with hz | hz
          · exact HH.out.notG k z hz h'
          · have := HH.out.lt _ (HH.out.inM z h'); omega
        · rcases hz with hz | hz
          · have := HH.out.lt z (HH.out.inG k z hz); have := HSZ.out; omega
          · have := HSZ.out; omega)
    have e1 : (V k ++ [(gsOf T os, Value.slice ta TW tc)]).map (·.1) = ol ++ [gsOf T os] := by
      rw [List.map_append]
      have := HV.out.1
      (try dsimp only at this)
      rw [this]; rfl
    rw [e1] at hu
    have e2 : s.guess (k : Int) (ol, os) T U = { s with op := s.op.set k (ol ++ [gsOf T os], wrap64 (os + 1)), x := s.x.put (k : Int) U } := by
      unfold SM.guess SM.set gsOf
      simp
    rw [e2]
    refine ⟨rfl, _, ⟨B, OB, oc, ids, _, _, _, _, _, _, hu⟩, fun z hz => .inl hz, fun z hz => ?_, ?_⟩
    · rcases hz with hz | hz | hz
      · exact .inl hz
      · exact hz.imp (HH.out.inG k z) (fun h => h.1)
      · exact (HV9.out.2.1 z hz).imp (HH.out.inM z) (fun h => by have := HSZ.out; omega)
    · refine hf9.mono (fun z _ hz => ?_)
      rcases hz with rfl | hz | hz
      · exact HH.out.inS.2
      · exact HH.out.inG k z hz
      · exact HH.out.inM z hz
end Go.Proofs.Ytbfeopakmjcapaa.Sp
