/-
  Tools for the laws of chapter 28 and those above it: how threads stand as values, whole loads, arrays that are equal.
-/
import Derived.Test.YtbfeopakmjcapaaTsoPt
import Derived.Test.YtbfeopakmjcapaaOpenB
import Derived.Test.YtbfeopakmjcapaaTsoG
import Derived.DeepKeys
import Derived.Deep.OwnRows
set_option linter.unusedVariables false
set_option linter.unusedSimpArgs false
set_option maxHeartbeats 4000000
set_option maxRecDepth 8000
namespace Go.Proofs.Ytbfeopakmjcapaa.Tso
open Go.RowKit Go.Proofs.Ytbfeopakmjcapaa.Seq

/-- What is done, as cells. -/
def doC (l : List (Bool × Int)) : List Value := l.flatMap fun a => [.bool a.1, .int .i64 a.2]
theorem doC_length (l : List (Bool × Int)) : (doC l).length = l.length * 2 := by
  unfold doC
  induction l with
  | nil => rfl
  | cons a l ih => simp only [List.flatMap_cons, List.length_append, List.length_cons, List.length_nil, ih]; omega
theorem doC_get (l : List (Bool × Int)) (k : Nat) (h : k < l.length) : (doC l)[k * 2]? = some (.bool l[k].1) ∧ (doC l)[k * 2 + 1]? = some (.int .i64 l[k].2) := by
  induction l generalizing k with
  | nil => simp at h
  | cons a l ih =>
    cases k with
    | zero => exact ⟨rfl, rfl⟩
    | succ k =>
      have h2 : k < l.length := by simpa using h
      obtain ⟨a1, a2⟩ := ih k h2
      have e : (k + 1) * 2 = k * 2 + 2 := by omega
      refine ⟨?_, ?_⟩
      · rw [e]; show (doC l)[k * 2]? = _; rw [a1]; rfl
      · rw [e]; show (doC l)[k * 2 + 1]? = _; rw [a2]; rfl

theorem regs16 {w : World} {B : Nat} {R : Nat → Prop} {ids : List (Nat × Nat)} {m : M} (h : MR w R B ids m) (who : Int) : ((m.th who).getD noTh).regs.length = 16 := by
  obtain ⟨Q, hQ⟩ := h
  rcases th_cases hQ who with ⟨_, h2⟩ | ⟨k, p, t, rfl, hp, ht, h1, h2, hrep⟩
  · rw [h2]; rfl
  · rw [h2]; exact hrep.1

/-- A value of how a thread stands, cell by cell. -/
structure Stand (t : Th) (a : Option Addr) (c : Nat) (A : Array Value) : Prop where
  eq : A = (standV t a c).toArray
  size : A.size = 19
  one : A.toList.all (·.oneCell') = true
  place : A[0]? = some (.int .i64 t.place)
  regs : ∀ k : Nat, k < 16 → A[1 + k]? = some (.int .i64 (t.regs.getD k 0))
  all : ∀ j v, (ints t.regs)[j]? = some v → A[1 + j]? = some v
  wait : A[17]? = some (.slice a t.wait.length c)
  over : A[18]? = some (.bool t.over)
theorem stand_of (t : Th) (a : Option Addr) (c : Nat) (h : t.regs.length = 16) : Stand t a c (standV t a c).toArray := by
  obtain ⟨code, place, regs, wait, over⟩ := t
  obtain ⟨r0, r1, r2, r3, r4, r5, r6, r7, r8, r9, r10, r11, r12, r13, r14, r15, rfl⟩ := list16 regs h
  refine ⟨rfl, rfl, rfl, rfl, fun k hk => ?_, ?_, rfl, rfl⟩
  · match k, hk with
    | 0, _ => rfl
    | 1, _ => rfl
    | 2, _ => rfl
    | 3, _ => rfl
    | 4, _ => rfl
    | 5, _ => rfl
    | 6, _ => rfl
    | 7, _ => rfl
    | 8, _ => rfl
    | 9, _ => rfl
    | 10, _ => rfl
    | 11, _ => rfl
    | 12, _ => rfl
    | 13, _ => rfl
    | 14, _ => rfl
    | 15, _ => rfl
    | k + 16, h => exact absurd h (by omega)
  · exact arr16 (.int .i64 place) _ [.slice a wait.length c, .bool over]

section
variable {P : Program} {ops : Array Oper} {rest : List Oper} {dst : Option Tmp} {ty tt : TypeId} {x : Operand} {ps : String} {af : Array Edge} {g : Option (Nat × Bool)} {a : Act} {w : World} {b o : Nat} {C : Array Value} {T : TypeId}
/-- A whole block is loaded. -/
theorem wpList_loadA {Q : Exit → Act → World → Prop} {d : TypeDesc} (zlx : a.eval x = .pointer (some ⟨b, 0, none⟩)) (zlu : P.underlying ty = some d) (zld : d.isRow = true) (zli : (P.info? ty).map (·.size) = some C.size) (zlb : Blk w b C T)
    (zlK : wpList P ops Q rest (a.put dst (.agg C)) w) : wpList P ops Q (⟨dst, .load ty x, tt, ps, af, none⟩ :: rest) a w := by
  refine wpList_loadB C.toList zlb (fun j v hj => by simpa using hj) rfl rfl zlx zlu zld (by simpa using zli) ?_
  simpa using zlK
/-- A part of a block is looked at. -/
theorem wpStill_loadA {Q : Act → Prop} {d : TypeDesc} (cs : List Value) (zlw : Region.wanted ⟨dst, .load ty x, tt, ps, af, g⟩ (yielded ops a.tmps) = true) (zlx : a.eval x = .pointer (some ⟨b, o, none⟩)) (zlu : P.underlying ty = some d) (zld : d.isRow = true)
    (zli : (P.info? ty).map (·.size) = some cs.length) (zlb : Blk w b C T) (zlc : ∀ j v, cs[j]? = some v → C[o + j]? = some v)
    (zlK : wpStill P ops w Q rest (a.put dst (.agg cs.toArray))) : wpStill P ops w Q (⟨dst, .load ty x, tt, ps, af, g⟩ :: rest) a := by
  unfold wpStill
  rw [if_pos zlw]
  unfold Oper.still
  rw [run_loadB cs zlb zlc rfl zlx zlu zld zli, Oper.stillUpon_value]
  exact zlK
end

theorem underREG : Try.prog.underlying 42 = some (.array 16 2) := by kernel_rfl
theorem underI64 : Try.prog.underlying 2 = some (.int .i64) := by kernel_rfl
theorem plainI64 : Try.prog.plainKey 2 = true := by kernel_rfl
theorem infoI64 : ∃ i, Try.prog.info? 2 = some i := by
  cases h : Try.prog.info? 2 with
  | none => exact absurd h (by decide +kernel)
  | some i => exact ⟨i, rfl⟩
theorem cellsI64 : Try.prog.cellsOf 2 = 1 := by kernel_rfl

theorem run_eqInts (xs ys : List Int) (w : World) : ∀ is : List Nat, (∀ i ∈ is, i < xs.length ∧ i < ys.length) → (Op.eqItems 9999 2 1 (ints xs).toArray (ints ys).toArray is).run Try.prog w = .ok (is.all fun i => xs.getD i 0 == ys.getD i 0) w
  | [], _ => by simp [Op.eqItems]
  | i :: is, h => by
    obtain ⟨h1, h2⟩ := h i (by simp)
    have p1 := run_part_plain (P := Try.prog) (w := w) plainI64 (xs := (ints xs).toArray) (off := i * 1) (v := .int .i64 (xs.getD i 0)) (by rw [Nat.mul_one, List.getElem?_toArray]; exact ints_get xs i h1)
    have p2 := run_part_plain (P := Try.prog) (w := w) plainI64 (xs := (ints ys).toArray) (off := i * 1) (v := .int .i64 (ys.getD i 0)) (by rw [Nat.mul_one, List.getElem?_toArray]; exact ints_get ys i h2)
    have p3 : (Op.equalIn 9999 2 (.int .i64 (xs.getD i 0)) (.int .i64 (ys.getD i 0))).run Try.prog w = .ok (xs.getD i 0 == ys.getD i 0) w := by
      rw [show (9999 : Nat) = 9998 + 1 from rfl, Op.equalIn]
      simp only [Sem.run_bind, run_underlying underI64, Result.andThen_ok]
      simp
    have ih := run_eqInts xs ys w is (fun j hj => h j (by simp [hj]))
    simp only [Op.eqItems, Sem.run_bind, p1, p2, p3, Result.andThen_ok, List.all_cons]
    cases hb : (xs.getD i 0 == ys.getD i 0)
    · simp
    · simpa using ih

theorem all_eq16 (xs ys : List Int) (h1 : xs.length = 16) (h2 : ys.length = 16) : ((List.range 16).all fun i => xs.getD i 0 == ys.getD i 0) = decide (xs = ys) := by
  apply Bool.eq_iff_iff.2
  simp only [List.all_eq_true, List.mem_range, beq_iff_eq, decide_eq_true_eq]
  constructor
  · intro h
    apply List.ext_getElem (by omega)
    intro i hi hj
    have := h i (by omega)
    simpa [hi, hj] using this
  · rintro rfl i _
    rfl

theorem run_eqRow (l l' : List Int) (h : l.length = 16) (h' : l'.length = 16) (w : World) : (Op.equalIn 10000 42 (.agg (ints l).toArray) (.agg (ints l').toArray)).run Try.prog w = .ok (decide (l = l')) w := by
  obtain ⟨i, hi⟩ := infoI64
  rw [show (10000 : Nat) = 9999 + 1 from rfl, run_equalIn_array w 9999 _ _ underREG hi, cellsI64, run_eqInts l l' w _ (fun i hi => by have := List.mem_range.1 hi; omega), all_eq16 l l' h h']

theorem run_eqRegs {o : Oper} {a : Act} {w : World} {x y : Operand} {t2 : TypeId} (l l' : List Int) (h : l.length = 16) (h' : l'.length = 16) (ho : o.op = .binOp .eql 42 x y t2) (hx : a.eval x = .agg (ints l).toArray) (hy : a.eval y = .agg (ints l').toArray) :
    (execOp a.eval o).run Try.prog w = .ok (.value (.bool (decide (l = l')))) w := by
  unfold execOp
  simp only [ho, hx, hy]
  have e := run_eqRow l l' h h' w
  generalize (ints l).toArray = A at *
  generalize (ints l').toArray = B at *
  go_simp
theorem wpStill_eqRegs {ops : Array Oper} {rest : List Oper} {dst : Option Tmp} {tt t2 : TypeId} {x y : Operand} {ps : String} {af : Array Edge} {g : Option (Nat × Bool)} {a : Act} {w : World} {Q : Act → Prop} (l l' : List Int) (zlw : Region.wanted ⟨dst, .binOp .eql 42 x y t2, tt, ps, af, g⟩ (yielded ops a.tmps) = true)
    (zlx : a.eval x = .agg (ints l).toArray) (zly : a.eval y = .agg (ints l').toArray) (zll : l.length = 16) (zlm : l'.length = 16) (zlK : wpStill Try.prog ops w Q rest (a.put dst (.bool (decide (l = l'))))) : wpStill Try.prog ops w Q (⟨dst, .binOp .eql 42 x y t2, tt, ps, af, g⟩ :: rest) a := by
  unfold wpStill
  rw [if_pos zlw]
  unfold Oper.still
  rw [run_eqRegs l l' zll zlm rfl zlx zly, Oper.stillUpon_value]
  exact zlK

/-- The same tools at a law's walk. -/
theorem th_ok {w : World} {B : Nat} {R : Nat → Prop} {ids : List (Nat × Nat)} {m : M} (h : MR w R B ids m) (who : Int) : ((m.th who).getD noTh).wait.length ≤ m.room := by
  obtain ⟨Q, hQ⟩ := h
  rcases th_cases hQ who with ⟨_, h2⟩ | ⟨k, p, t, rfl, hp, ht, h1, h2, hrep⟩
  · rw [h2]; exact Nat.zero_le _
  · rw [h2]; exact hrep.2.2.2.2.1

theorem room_ok {w : World} {B : Nat} {R : Nat → Prop} {ids : List (Nat × Nat)} {m : M} (h : MR w R B ids m) (who : Int) {t : Th} (ht : m.th who = some t) : t.wait.length ≤ m.room ∧ t.regs.length = 16 := by
  have h1 := th_ok h who
  have h2 := regs16 h who
  rw [ht] at h1 h2
  exact ⟨h1, h2⟩

theorem doIns_low {m : M} {who : Int} {t t' : Th} {i : Ins} {own : List Int} {ev : List Ev} {k : Leak} (h : doIns m who t i = some (t', own, ev, k)) (hk : i.k < 9) : own = m.own ∧ ev = m.events := by
  unfold doIns at h
  dsimp only at h
  rw [if_neg (show ¬ i.k = 9 by omega), if_neg (show ¬ i.k = 10 by omega), if_neg (show ¬ i.k = 11 by omega), if_neg (show ¬ i.k = 12 by omega), if_neg (show ¬ i.k = 13 by omega)] at h
  by_cases h7 : i.k = 7
  · rw [if_pos h7] at h
    split at h
    · obtain ⟨_, rfl, rfl, _⟩ := h; exact ⟨rfl, rfl⟩
    · obtain ⟨_, rfl, rfl, _⟩ := h; exact ⟨rfl, rfl⟩
  rw [if_neg h7] at h
  by_cases h4 : i.k = 4
  · rw [if_pos h4] at h
    obtain ⟨_, rfl, rfl, _⟩ := h; exact ⟨rfl, rfl⟩
  rw [if_neg h4] at h
  by_cases h5 : i.k = 5
  · rw [if_pos h5] at h
    split at h
    · obtain ⟨_, rfl, rfl, _⟩ := h; exact ⟨rfl, rfl⟩
    · cases h
  rw [if_neg h5] at h
  simp only [Option.some.injEq, Prod.mk.injEq] at h
  obtain ⟨_, rfl, rfl, _⟩ := h
  exact ⟨rfl, rfl⟩

/-- A step that is no event, and is put back, was not. -/
theorem put_step {m : M} {who : Int} {t : Th} {i : Ins} (ht : m.th who = some t) (hi : t.next = some i) (hk : i.k < 9) (hr : t.wait.length ≤ m.room) : ((m.step who).1).put who t = m := by
  have hlen : 0 ≤ who ∧ who < m.ths.length := by
    unfold M.th at ht
    split at ht
    · assumption
    · cases ht
  have hget : m.ths[who.toNat]? = some t := by
    unfold M.th at ht
    rw [if_pos hlen] at ht
    exact ht
  have hset : m.ths.set who.toNat t = m.ths := by
    apply List.ext_getElem?
    intro j
    rw [List.getElem?_set]
    split
    · rename_i hj; subst hj; rw [if_pos (by omega)]; exact hget.symm
    · rfl
  have hself : t.as t = t := rfl
  unfold M.step
  rw [ht]
  simp only [hi]
  cases hd : doIns m who t i with
  | none =>
    unfold M.put
    simp only [ht, if_pos hr, hself, hset]
  | some r =>
    obtain ⟨t', own, ev, k⟩ := r
    obtain ⟨h1, h2⟩ := doIns_low hd hk
    have h3 := (doIns_keeps hd).1
    dsimp only at h1 h2 h3 ⊢
    subst h1; subst h2
    unfold M.put
    have hth : M.th { m with ths := m.ths.set who.toNat t', own := m.own, events := m.events } who = some t' := by
      unfold M.th
      dsimp only
      rw [if_pos (by simpa using hlen)]
      rw [List.getElem?_set]
      simp only [if_true]
      rw [if_pos (by omega)]
    rw [hth]
    dsimp only
    rw [if_pos hr]
    have e : t'.as t = t := by
      obtain ⟨a, b, c, d, e⟩ := t'
      obtain ⟨a2, b2, c2, d2, e2⟩ := t
      dsimp only at h3
      subst h3
      rfl
    rw [e]
    simp only [List.set_set, hset]
theorem put_big {m : M} {who : Int} {u : Th} (h : m.room < u.wait.length) : m.put who u = m := by
  unfold M.put
  split
  · rfl
  · rw [if_neg (by omega)]
theorem put_neg {m : M} {u : Th} : m.put (-1) u = m := by
  unfold M.put M.th
  simp

/-- Blocks of the law's own, that no machine's call changes. -/
def Keep (w : World) (R : Nat → Prop) (L : List (Nat × Array Value × TypeId)) : Prop := ∀ e ∈ L, Blk w e.1 e.2.1 e.2.2 ∧ ¬ R e.1
/-- How a law stands: a machine, its own blocks, and what was there ahead as it was. -/
structure St (w0 w : World) (R : Nat → Prop) (B : Nat) (ids : List (Nat × Nat)) (m : M) (L : List (Nat × Array Value × TypeId)) : Prop where
  mr : MR w R B ids m
  keep : Keep w R L
  fr0 : Fr (fun _ => False) w0 w
  up : ∀ z, R z → w0.heap.size ≤ z
namespace St
variable {w0 w w1 : World} {R R1 : Nat → Prop} {B : Nat} {ids : List (Nat × Nat)} {m m1 : M} {L : List (Nat × Array Value × TypeId)}
theorem fr (h : St w0 w R B ids m L) (hf : Fr (fun _ => False) w w1) : St w0 w1 R B ids m L :=
  ⟨h.mr.fr hf (fun _ _ h => h), fun e he => ⟨(h.keep e he).1.fr hf (fun h => h), (h.keep e he).2⟩, h.fr0.trans hf (fun _ _ h => h), h.up⟩
theorem mv (h : St w0 w R B ids m L) (hm : MR w1 R1 B ids m1) (hv : Mv R R1 w w1) : St w0 w1 R1 B ids m1 L :=
  ⟨hm, fun e he => by
    obtain ⟨h1, h2⟩ := h.keep e he
    have hl := h1.lt
    exact ⟨h1.fr hv.2.2 h2, fun hr => by
      rcases hv.2.1 _ hr with h' | h'
      · exact h2 h'
      · omega⟩, h.fr0.trans hv.2.2 (fun z hz hr => by have := h.up z hr; omega), fun z hz => by
    rcases hv.2.1 z hz with h' | h'
    · exact h.up z h'
    · have := h.fr0.size; omega⟩
theorem new (h : St w0 w R B ids m L) (hf : Fr (fun _ => False) w w1) {b : Nat} {C : Array Value} {T : TypeId} (hb : Blk w1 b C T) (hn : w.heap.size ≤ b) : St w0 w1 R B ids m ((b, C, T) :: L) :=
  ⟨(h.fr hf).mr, fun e he => by
    rcases List.mem_cons.1 he with rfl | he
    · exact ⟨hb, fun hr => by have := h.mr.lt _ hr; dsimp only at this; omega⟩
    · exact (h.fr hf).keep e he, (h.fr hf).fr0, h.up⟩
theorem get (h : St w0 w R B ids m L) {b : Nat} {C : Array Value} {T : TypeId} (he : (b, C, T) ∈ L) : Blk w b C T := (h.keep _ he).1
end St
theorem own_row {w : World} {E : TypeId} {sz n cap : Nat} {R : Nat → Prop} {ao : Option Addr} {cs : List Value} (h : OwnAt w E sz R ao n cap cs) :
    ∃ L : List (Nat × Array Value × TypeId), (∀ e ∈ L, Blk w e.1 e.2.1 e.2.2 ∧ R e.1) ∧ ∀ w', (∀ e ∈ L, Blk w' e.1 e.2.1 e.2.2) → OwnAt w' E sz (fun k => ∃ e ∈ L, k = e.1) ao n cap cs := by
  obtain ⟨h1, h2, h3, h4⟩ := h
  rcases h4 with h | ⟨r, off, C, e, hr, hb, hs, ht⟩
  · exact ⟨[], fun e he => (by cases he), fun w' _ => ⟨h1, h2, h3, .inl h⟩⟩
  · exact ⟨[(r, C, E)], fun e he => (by rw [List.mem_singleton] at he; subst he; exact ⟨hb, hr⟩), fun w' hw => ⟨h1, h2, h3, .inr ⟨r, off, C, e, ⟨_, List.mem_singleton_self _, rfl⟩, hw _ (List.mem_singleton_self _), hs, ht⟩⟩⟩
theorem St.add {w0 w : World} {R : Nat → Prop} {B : Nat} {ids : List (Nat × Nat)} {m : M} {L L2 : List (Nat × Array Value × TypeId)} (h : St w0 w R B ids m L) (h2 : ∀ e ∈ L2, Blk w e.1 e.2.1 e.2.2 ∧ ¬ R e.1) : St w0 w R B ids m (L2 ++ L) :=
  ⟨h.mr, fun e he => (List.mem_append.1 he).elim (h2 e) (h.keep e), h.fr0, h.up⟩
theorem _root_.Go.Calls.named {P : Program} {f : FuncId} {args : Array Value} {w : World} {Q : Ending → World → Prop} (h : ∀ wc, wc = w → Calls P f args wc Q) : Calls P f args w Q := h w rfl
/-- make([]T, n) of things of any size. -/
theorem run_makeG {P : Program} {t e : TypeId} {z : Value} {size bytes : Nat} (ht : P.underlying t = some (.slice e)) (hinfo : (P.info? e).map (fun i => (i.zero, i.size, i.bytes)) = some (some z, size, bytes)) (n : Nat) (hb : bytes * n ≤ 281474976710656) (h63 : n ≤ 9223372036854775807) (w : World) :
    (Instr.makeSlice t (.int .i64 (n : Int)) (.int .i64 (n : Int))).run P w = .ok (.slice (some ⟨w.heap.size, 0, none⟩) n n) (w.alloc (.cells (madeCells z.cells (n * size)) e)) := by
  obtain ⟨i, hi, hzz⟩ := Option.map_eq_some_iff.1 hinfo
  simp only [Prod.mk.injEq] at hzz
  obtain ⟨hz, hs, hb'⟩ := hzz
  have hb2 : (i.bytes : Int) * (n : Int) ≤ 281474976710656 := by
    have h : ((i.bytes * n : Nat) : Int) ≤ 281474976710656 := by rw [hb']; omega
    rwa [Int.natCast_mul] at h
  have hr := run_make (P := P) w t e i z ht hi hz .i64 .i64 n n (by omega) (Int.le_refl _) hb2 (by omega)
  simp only [Int.toNat_natCast, hs] at hr
  exact hr
/-- An operation of which it is known what it gives. -/
theorem wpList_gives {P : Program} {ops : Array Oper} {rest : List Oper} {o : Oper} {a : Act} {w : World} {Q : Exit → Act → World → Prop} {v : Value} (hw : Region.wanted o (yielded ops a.tmps) = true) (hr : (execOp a.eval o).run P w = .ok (.value v) w)
    (h : wpList P ops Q rest (a.put o.dst v) w) : wpList P ops Q (o :: rest) a w := by
  unfold wpList
  rw [if_pos hw]
  refine .inl ?_
  unfold Oper.wp
  rw [hr]
  simpa [Oper.upon, Result.andThen] using h
theorem wpList_loadG {P : Program} {ops : Array Oper} {rest : List Oper} {dst : Option Tmp} {ty tt : TypeId} {x : Operand} {ps : String} {af : Array Edge} {g : Option (Nat × Bool)} {a : Act} {w : World} {b o : Nat} {C : Array Value} {T : TypeId} {Q : Exit → Act → World → Prop} {d : TypeDesc} (cs : List Value)
    (zlw : Region.wanted ⟨dst, .load ty x, tt, ps, af, g⟩ (yielded ops a.tmps) = true) (zlx : a.eval x = .pointer (some ⟨b, o, none⟩)) (zlu : P.underlying ty = some d) (zld : d.isRow = true)
    (zli : (P.info? ty).map (·.size) = some cs.length) (zlb : Blk w b C T) (zlc : ∀ j v, cs[j]? = some v → C[o + j]? = some v)
    (zlK : wpList P ops Q rest (a.put dst (.agg cs.toArray)) w) : wpList P ops Q (⟨dst, .load ty x, tt, ps, af, g⟩ :: rest) a w :=
  wpList_gives zlw (run_loadB cs zlb zlc rfl zlx zlu zld zli) zlK
theorem wpList_eqRegs {ops : Array Oper} {rest : List Oper} {dst : Option Tmp} {tt t2 : TypeId} {x y : Operand} {ps : String} {af : Array Edge} {g : Option (Nat × Bool)} {a : Act} {w : World} {Q : Exit → Act → World → Prop} (l l' : List Int) (zlw : Region.wanted ⟨dst, .binOp .eql 42 x y t2, tt, ps, af, g⟩ (yielded ops a.tmps) = true)
    (zlx : a.eval x = .agg (ints l).toArray) (zly : a.eval y = .agg (ints l').toArray) (zll : l.length = 16) (zlm : l'.length = 16) (zlK : wpList Try.prog ops Q rest (a.put dst (.bool (decide (l = l')))) w) : wpList Try.prog ops Q (⟨dst, .binOp .eql 42 x y t2, tt, ps, af, g⟩ :: rest) a w :=
  wpList_gives zlw (run_eqRegs l l' zll zlm rfl zlx zly) zlK
theorem wpStill_gives {P : Program} {ops : Array Oper} {rest : List Oper} {o : Oper} {a : Act} {w : World} {Q : Act → Prop} {v : Value} (zlw : Region.wanted o (yielded ops a.tmps) = true) (zlr : (execOp a.eval o).run P w = .ok (.value v) w)
    (zlK : wpStill P ops w Q rest (a.put o.dst v)) : wpStill P ops w Q (o :: rest) a := by
  unfold wpStill
  rw [if_pos zlw]
  unfold Oper.still
  rw [zlr, Oper.stillUpon_value]
  exact zlK
/-- An operation of which it is known what it does. -/
theorem wpList_does {P : Program} {ops : Array Oper} {rest : List Oper} {o : Oper} {a : Act} {w w1 : World} {Q : Exit → Act → World → Prop} {v : Value} (zlw : Region.wanted o (yielded ops a.tmps) = true) (zlr : (execOp a.eval o).run P w = .ok (.value v) w1)
    (zlK : wpList P ops Q rest (a.put o.dst v) w1) : wpList P ops Q (o :: rest) a w := by
  unfold wpList
  rw [if_pos zlw]
  refine .inl ?_
  unfold Oper.wp
  rw [zlr]
  simpa [Oper.upon, Result.andThen] using zlK
/-- Made, then stored into: as one. -/
theorem fr_made {w wA wS : World} {b : Nat} (hA : Fr (fun _ => False) w wA) (hS : Fr (fun k => k = b) wA wS) (hb : w.heap.size ≤ b) : Fr (fun _ => False) w wS := hA.trans hS (fun z hz h => by omega)
end Go.Proofs.Ytbfeopakmjcapaa.Tso
