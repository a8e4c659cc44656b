/-
  make, and copy, as laws on owned rows; slices.Repeat of one number, up to eight times.
-/
import Derived.Test.YtbfeopakmjcapaaWhole
import Derived.Test.YtbfeopakmjcapaaBase
import Derived.Deep.OwnRows
import Derived.Laws.IdiomCopy
set_option linter.unusedVariables false
set_option linter.unusedSimpArgs false
set_option maxHeartbeats 4000000
set_option maxRecDepth 8000
namespace Go.Proofs.Ytbfeopakmjcapaa
open Go.RowKit
attribute [local irreducible] wpStill wpList Calls CallsIn

theorem made_eq (z : Value) (n : Nat) : madeCells #[z] n = (List.replicate n z).toArray := by
  apply Array.toList_inj.1
  apply List.ext_getElem?
  intro i
  unfold madeCells
  simp only [Array.toList_map, Array.toList_range, List.getElem?_map, List.getElem?_replicate]
  by_cases h : i < n
  · simp [h, Nat.mod_one]
  · simp [h]

section
variable {P : Program}
/-- make([]T, n) of one-cell things. -/
theorem wpList_makeF (w : World) {ops : Array Oper} {rest : List Oper} {o : Oper} {a : Act} {Q : Exit → Act → World → Prop} (hg : o.guard = none) (l c : Operand) (t : TypeId) (hop : o.op = Op.makeSlice t l c) (e : TypeId) (z : Value) (bytes : Nat)
    (ht : P.underlying t = some (.slice e)) (hi : (P.info? e).map (fun i => (i.zero, i.size, i.bytes)) = some (some z, 1, bytes)) (hz : z.cells = #[z]) (n : Nat) (hl : a.eval l = .int .i64 (n : Int)) (hc : a.eval c = .int .i64 (n : Int)) (hb : bytes * n ≤ 281474976710656) (h63 : n ≤ 9223372036854775807)
    (hK : ∀ w', Blk w' w.heap.size (List.replicate n z).toArray e → Fr (fun _ => False) w w' → w'.heap.size = w.heap.size + 1 → wpList P ops Q rest (a.put o.dst (.slice (some ⟨w.heap.size, 0, none⟩) n n)) w') : wpList P ops Q (o :: rest) a w := by
  refine wpList_plain hg fun K hK' => ?_
  have hrun := run_make_row' (P := P) t e z bytes ht hi hz .i64 .i64 n hb h63 w
  unfold Oper.wp
  simp [execOp, hop, hl, hc, hrun, Result.andThen]
  refine hK' _ _ (hK _ ?_ ((Fr.refl _ w).alloc _) (by simp))
  have := Blk.new w (madeCells #[z] n) e
  rw [made_eq] at this ⊢
  exact this

/-- copy into a row of which the block is known, of one-cell things, from whatever is read. -/
theorem wpList_copyF (w : World) {ops : Array Oper} {rest : List Oper} {o : Oper} {a : Act} {Q : Exit → Act → World → Prop} (hg : o.guard = none) (s x : Operand) (t t2 : TypeId) (hop : o.op = Op.call { callee := Callee.builtin Builtin.copy, args := #[s, x], argTypes := #[t, t2] })
    (e : TypeId) (ht : P.underlying t = some (.slice e)) (hi : (P.info? e).map (·.size) = some 1) (b off dl dc : Nat) (hs : a.eval s = .slice (some ⟨b, off, none⟩) dl dc) (C : Array Value) (T : TypeId) (hb : Blk w b C T)
    (r2 off2 sl sc : Nat) (hx : a.eval x = .slice (some ⟨r2, off2, none⟩) sl sc) (cs : List Value) (hn : cs.length = Nat.min sl dl) (hsrc : ∀ j v, cs[j]? = some v → w.cell? ⟨r2, off2 + j, none⟩ = some v) (hle : off + cs.length ≤ C.size) (h1 : ∀ u ∈ cs, u.oneCell' = true)
    (hK : ∀ w', Blk w' b (C.toList.take off ++ cs ++ C.toList.drop (off + cs.length)).toArray T → Fr (fun k => k = b) w w' → w'.heap.size = w.heap.size → wpList P ops Q rest (a.put o.dst (goInt cs.length)) w') : wpList P ops Q (o :: rest) a w := by
  refine wpList_plain hg fun K hK' => ?_
  have hrun := run_copy_cells (P := P) w t t2 o.type e b off dl dc ⟨r2, off2, none⟩ sl sc cs ht hi hn (fun j v hj => by rw [Addr.add_lit]; exact hsrc j v hj)
    (fun j hj => by rw [hb.cell]; simp; omega) (fun j hj => hb.free _) h1
  have hst := store_blk hb off cs hle
  unfold Oper.wp
  simp [execOp, hop, resolve, invoke, builtin, hs, hx, hrun, Result.andThen]
  exact hK' _ _ (hK _ hst.1 hst.2.1 hst.2.2)

theorem wpList_copyA (w : World) {ops : Array Oper} {rest : List Oper} {dst : Option Tmp} {t t2 tt : TypeId} {s x : Operand} {ps : String} {af : Array Edge} {a : Act} {Q : Exit → Act → World → Prop} {e : TypeId} (b off dl dc : Nat) (C : Array Value) (T : TypeId) (r2 off2 sl sc : Nat) (cs : List Value)
    (zht : P.underlying t = some (.slice e)) (zhi : (P.info? e).map (·.size) = some 1) (zcs : a.eval s = .slice (some ⟨b, off, none⟩) dl dc) (zcx : a.eval x = .slice (some ⟨r2, off2, none⟩) sl sc) (zcb : Blk w b C T)
    (zcn : cs.length = Nat.min sl dl) (zcr : ∀ j v, cs[j]? = some v → w.cell? ⟨r2, off2 + j, none⟩ = some v) (zcle : off + cs.length ≤ C.size) (zc1 : ∀ u ∈ cs, u.oneCell' = true)
    (zcK : ∀ w', Blk w' b (C.toList.take off ++ cs ++ C.toList.drop (off + cs.length)).toArray T → Fr (fun k => k = b) w w' → w'.heap.size = w.heap.size → wpList P ops Q rest (a.put dst (goInt cs.length)) w') :
    wpList P ops Q (⟨dst, .call { callee := .builtin .copy, args := #[s, x], argTypes := #[t, t2] }, tt, ps, af, none⟩ :: rest) a w :=
  wpList_copyF w rfl s x t t2 rfl e zht zhi b off dl dc zcs C T zcb r2 off2 sl sc zcx cs zcn zcr zcle zc1 zcK
end

set_option maxHeartbeats 1000000 in
theorem mul_is (n : Nat) (hn : n ≤ 8) (w : World) : Calls Try.prog 70 #[.int .u64 1, .int .u64 (n : Int)] w fun e w' => e = .returned (.tuple #[.int .u64 0, .int .u64 (n : Int)]) ∧ Fr (fun _ => False) w w' := by
  obtain rfl | rfl | rfl | rfl | rfl | rfl | rfl | rfl | rfl : n = 0 ∨ n = 1 ∨ n = 2 ∨ n = 3 ∨ n = 4 ∨ n = 5 ∨ n = 6 ∨ n = 7 ∨ n = 8 := by omega
  all_goals
    go_enter Try.func70, Try.ntmps70
    go_wp2
    go_ret2
    exact ⟨rfl, by (with_reducible repeat' (first | exact Fr.refl _ _ | apply Fr.alloc | apply Fr.drew | apply Fr.drewN | refine Fr.setCell ?_ ?_ _))⟩

theorem infoINT : (Try.prog.info? 3).map (fun i => (i.zero, i.size, i.bytes)) = some (some (.int .i64 0), 1, 8) := by kernel_rfl
theorem szINT : (Try.prog.info? 3).map (·.size) = some 1 := by kernel_rfl

def filled (v : Int) (k n : Nat) : List Value := List.replicate k (.int .i64 v) ++ List.replicate (n - k) (.int .i64 0)
theorem filled_len (v : Int) (k n : Nat) (h : k ≤ n) : (filled v k n).length = n := by simp [filled]; omega
theorem filled_more (v : Int) (k n d : Nat) (h : k + d ≤ n) : (filled v k n).take k ++ List.replicate d (.int .i64 v) ++ (filled v k n).drop (k + d) = filled v (k + d) n := by
  have hk : (filled v k n).take k = List.replicate k (.int .i64 v) := by unfold filled; exact List.take_left' (by simp)
  have hd : (filled v k n).drop (k + d) = List.replicate (n - (k + d)) (.int .i64 0) := by
    unfold filled
    rw [← List.drop_drop, List.drop_left' (by simp), List.drop_replicate]
    congr 1
    omega
  rw [hk, hd]
  unfold filled
  rw [← List.replicate_append_replicate]

set_option maxHeartbeats 2000000 in
theorem rep_is (n : Nat) (hn : n ≤ 8) (r off cap : Nat) (v : Int) (w : World) (hx : w.cell? ⟨r, off, none⟩ = some (.int .i64 v)) :
    Calls Try.prog 52 #[.slice (some ⟨r, off, none⟩) 1 cap, .int .i64 (n : Int)] w fun e w' => ∃ a c, e = .returned (.slice a n c) ∧ OwnAt w' 3 1 (fun k => w.heap.size ≤ k) a n c (List.replicate n (.int .i64 v)) ∧ Fr (fun _ => False) w w' := by
  have hrl := World.block_lt_of_cell? _ _ hx
  dsimp only at hrl
  have h0 : ¬ ((n : Int) < 0) := by omega
  have hmu := fun w => mul_is n hn w
  go_enter Try.func52, Try.ntmps52
  go_wp2_with (first | still_step | (with_reducible first | refine wpStill_nil ?_ | refine Flow.Both.mk ?_ ?_ | exact True.intro) | (with_reducible refine Flow.same_mk rfl rfl rfl ?_; go_simp; done) | (with_reducible exact Flow.same_un rfl rfl rfl) | (with_reducible refine Flow.region_flow (id := 9) [0, 0, 0, 6, 0, 0, 48, 126, 255, 511] 128 328 [(0, none), (1, none), (2, none), (3, none), (4, none), (5, none), (6, none), (7, some []), (8, none), (9, none)] mixed ?hB ?_; (case hB => decide +kernel); simp only [Flow.textOf, Flow.q1, Flow.q2, Flow.q3, Flow.q4, Flow.q5, Flow.q6, Flow.q7, Flow.q8, Flow.q9, Flow.wpFl, Flow.SameAll]) | (refine Flow.region_still mixed ?hB ?_; (case hB => decide +kernel)))
  go_at_call 70
  refine (hmu _).mono ?_
  rintro e w1 ⟨rfl, hf⟩
  have HF1 := hid hf
  have hx1 := hf.cell hx (fun h => h)
  have hs1 := hf.size
  clear hf hx hmu
  go_wp2_with (first | ((refine wpList_makeF _ rfl (.tmp 29) (.tmp 29) 60 rfl 3 (.int .i64 0) 8 Try.underlying60 infoINT rfl n rfl rfl (by omega) (by omega) ?_); intro w2 hb2 hf2 hs2; have HB2 := hid hb2; have HF2 := hid hf2; have hx2 := hf2.cell hx1 (fun h => h); clear hb2 hf2 hx1) | ((with_reducible apply wpList_copyA (e := 3) _ w1.heap.size 0 n n (List.replicate n (.int .i64 0)).toArray 3 r off 1 cap (List.replicate (min 1 n) (.int .i64 v))); (case zht => exact Try.underlying60); (case zhi => exact szINT); (case zcs => rfl); (case zcx => rfl); (case zcb => exact HB2.out)) | still_step | (with_reducible first | refine wpStill_nil ?_ | refine Flow.Both.mk ?_ ?_ | exact True.intro) | (with_reducible refine Flow.same_mk rfl rfl rfl ?_; go_simp; done) | (with_reducible exact Flow.same_un rfl rfl rfl) | (with_reducible refine Flow.region_flow (id := 9) [0, 0, 0, 6, 0, 0, 48, 126, 255, 511] 128 328 [(0, none), (1, none), (2, none), (3, none), (4, none), (5, none), (6, none), (7, some []), (8, none), (9, none)] mixed ?hB ?_; (case hB => decide +kernel); simp only [Flow.textOf, Flow.q1, Flow.q2, Flow.q3, Flow.q4, Flow.q5, Flow.q6, Flow.q7, Flow.q8, Flow.q9, Flow.wpFl, Flow.SameAll]) | (refine Flow.region_still mixed ?hB ?_; (case hB => decide +kernel)))
  case zcn => simp
  case zcr =>
    intro j u hj
    rw [List.getElem?_replicate] at hj
    split at hj
    · obtain rfl := Option.some.inj hj
      obtain rfl : j = 0 := by omega
      exact hx2
    · cases hj
  case zcle => simp; omega
  case zc1 => intro u hu; rw [List.mem_replicate] at hu; rw [hu.2]; rfl
  case zcK =>
    intro w3 hb3 hf3 hs3
    have hm := filled_more v 0 n (min 1 n) (by omega)
    have hb3' : Blk w3 w1.heap.size (filled v (min 1 n) n).toArray 3 := by
      rw [← show (0 + min 1 n) = min 1 n by omega, ← hm]
      simpa [filled] using hb3
    have HB3 := hid hb3'
    have HF3 := hid ((HF1.out.trans HF2.out (fun _ _ h => h)).trans hf3 (fun k hk e => by omega))
    clear hb3 hb3' hf3 hm HB2 HF2 HF1 hx2
    obtain ⟨k0, hk0⟩ : ∃ k0, k0 = min 1 n := ⟨_, rfl⟩
    rw [← hk0] at HB3
    rw [← hk0]
    have HK0 := hid hk0
    have hk00 : k0 ≤ n ∧ (0 < n → 0 < k0) := by omega
    clear hk0
    go_wp2_with (first | still_step | (with_reducible first | refine wpStill_nil ?_ | refine Flow.Both.mk ?_ ?_ | exact True.intro) | (with_reducible refine Flow.same_mk rfl rfl rfl ?_; go_simp; done) | (with_reducible exact Flow.same_un rfl rfl rfl) | (with_reducible refine Flow.region_flow (id := 9) [0, 0, 0, 6, 0, 0, 48, 126, 255, 511] 128 328 [(0, none), (1, none), (2, none), (3, none), (4, none), (5, none), (6, none), (7, some []), (8, none), (9, none)] mixed ?hB ?_; (case hB => decide +kernel); simp only [Flow.textOf, Flow.q1, Flow.q2, Flow.q3, Flow.q4, Flow.q5, Flow.q6, Flow.q7, Flow.q8, Flow.q9, Flow.wpFl, Flow.SameAll]) | (refine Flow.region_still mixed ?hB ?_; (case hB => decide +kernel)))
    go_loopw [8] (fun i wr => ∃ k : Nat, k ≤ n ∧ i = .int .i64 k ∧ (0 < n → 0 < k) ∧ Blk wr w1.heap.size (filled v k n).toArray 3 ∧ Fr (fun _ => False) w wr) (fun i _ => n - (intOf i).toNat)
    case atStart => exact ⟨k0, hk00.1, rfl, hk00.2, HB3.out, HF3.out⟩
    case round =>
      obtain ⟨k, hk, rfl, hpos, hbk, hfk⟩ := hrel
      have HBK := hid hbk
      have HFK := hid hfk
      clear hbk hfk HB3 HF3
      by_cases hlt : k < n
      · have hk0 : 0 < k := hpos (by omega)
        have hnk : ¬ (n = k) := by omega
        go_wp2_with (first | ((with_reducible apply wpList_copyA (e := 3) _ w1.heap.size k (n - k) (n - k) (filled v k n).toArray 3 w1.heap.size 0 k n (List.replicate (min k (n - k)) (.int .i64 v))); (case zht => exact Try.underlying60); (case zhi => exact szINT); (case zcs => rfl); (case zcx => rfl); (case zcb => first | exact HBK.out | exact HBK.out.drew)) | still_step | (with_reducible first | refine wpStill_nil ?_ | refine Flow.Both.mk ?_ ?_ | exact True.intro) | (with_reducible refine Flow.same_mk rfl rfl rfl ?_; go_simp; done) | (with_reducible exact Flow.same_un rfl rfl rfl) | (with_reducible refine Flow.region_flow (id := 9) [0, 0, 0, 6, 0, 0, 48, 126, 255, 511] 128 328 [(0, none), (1, none), (2, none), (3, none), (4, none), (5, none), (6, none), (7, some []), (8, none), (9, none)] mixed ?hB ?_; (case hB => decide +kernel); simp only [Flow.textOf, Flow.q1, Flow.q2, Flow.q3, Flow.q4, Flow.q5, Flow.q6, Flow.q7, Flow.q8, Flow.q9, Flow.wpFl, Flow.SameAll]) | (refine Flow.region_still mixed ?hB ?_; (case hB => decide +kernel)))
        case zcn => simp
        case zcr =>
          intro j u hj
          rw [List.getElem?_replicate] at hj
          split at hj
          · obtain rfl := Option.some.inj hj
            have hb := HBK.out
            first | rw [hb.cell] | rw [show World.cell? wr.drew ⟨w1.heap.size, 0 + j, none⟩ = World.cell? wr ⟨w1.heap.size, 0 + j, none⟩ from rfl, hb.cell]
            rw [Nat.zero_add]
            unfold filled
            rw [List.getElem?_toArray, List.getElem?_append_left (by simp; omega), List.getElem?_replicate, if_pos (by omega)]
          · cases hj
        case zcle => simp [filled_len v k n hk]; omega
        case zc1 => intro u hu; rw [List.mem_replicate] at hu; rw [hu.2]; rfl
        case zcK =>
          intro w4 hb4 hf4 hs4
          have hm := filled_more v k n (min k (n - k)) (by omega)
          have hb4' : Blk w4 w1.heap.size (filled v (k + min k (n - k)) n).toArray 3 := by
            rw [← hm]
            simpa using hb4
          have HB4 := hid hb4'
          have HF4 := hid (HFK.out.trans (show Fr (fun k => k = w1.heap.size) wr w4 from (show Fr (fun k => k = w1.heap.size) wr _ by (with_reducible repeat' (first | exact Fr.refl _ _ | apply Fr.alloc | apply Fr.drew | apply Fr.drewN | refine Fr.setCell ?_ ?_ _))).trans hf4 (fun _ _ h => h)) (fun k hk e => by omega))
          clear hb4 hb4' hf4 hm HBK HFK
          obtain ⟨k4, hk4⟩ : ∃ k4, k4 = min k (n - k) := ⟨_, rfl⟩
          have hwr : IntKind.i64.wrap ((k : Int) + ((min k (n - k) : Nat) : Int)) = ((k + k4 : Nat) : Int) := by rw [IntWalk.i64_left, IntWalk.wrap64_in _ (by omega), hk4]; simp
          have HWR := hid hwr
          clear hwr
          go_wp2_with (first | still_step | (with_reducible first | refine wpStill_nil ?_ | refine Flow.Both.mk ?_ ?_ | exact True.intro) | (with_reducible refine Flow.same_mk rfl rfl rfl ?_; go_simp; done) | (with_reducible exact Flow.same_un rfl rfl rfl) | (with_reducible refine Flow.region_flow (id := 9) [0, 0, 0, 6, 0, 0, 48, 126, 255, 511] 128 328 [(0, none), (1, none), (2, none), (3, none), (4, none), (5, none), (6, none), (7, some []), (8, none), (9, none)] mixed ?hB ?_; (case hB => decide +kernel); simp only [Flow.textOf, Flow.q1, Flow.q2, Flow.q3, Flow.q4, Flow.q5, Flow.q6, Flow.q7, Flow.q8, Flow.q9, Flow.wpFl, Flow.SameAll]) | (refine Flow.region_still mixed ?hB ?_; (case hB => decide +kernel)))
          rw [HWR.out]
          go_roundw
          case rel =>
            have hrl : ∃ k_1 : Nat, k_1 ≤ n ∧ (Value.int .i64 ((k + k4 : Nat) : Int)) = .int .i64 k_1 ∧ (0 < n → 0 < k_1) ∧ Blk w4 w1.heap.size (filled v k_1 n).toArray 3 ∧ Fr (fun _ => False) w w4 := ⟨k + k4, by omega, rfl, by omega, by rw [hk4]; exact HB4.out, HF4.out⟩
            first | exact hrl | exact ⟨_, _, _, _, _, _, _, _, _, _, _, _, _, _, hrl, rfl⟩
          case measure => simp [intOf]; omega
      · obtain rfl : k = n := by omega
        go_wp2_with (first | still_step | (with_reducible first | refine wpStill_nil ?_ | refine Flow.Both.mk ?_ ?_ | exact True.intro) | (with_reducible refine Flow.same_mk rfl rfl rfl ?_; go_simp; done) | (with_reducible exact Flow.same_un rfl rfl rfl) | (with_reducible refine Flow.region_flow (id := 9) [0, 0, 0, 6, 0, 0, 48, 126, 255, 511] 128 328 [(0, none), (1, none), (2, none), (3, none), (4, none), (5, none), (6, none), (7, some []), (8, none), (9, none)] mixed ?hB ?_; (case hB => decide +kernel); simp only [Flow.textOf, Flow.q1, Flow.q2, Flow.q3, Flow.q4, Flow.q5, Flow.q6, Flow.q7, Flow.q8, Flow.q9, Flow.wpFl, Flow.SameAll]) | (refine Flow.region_still mixed ?hB ?_; (case hB => decide +kernel)))
        go_ret
        refine ⟨_, _, rfl, ⟨Nat.le_refl _, by unfold maxLen; omega, by simp, .inr ⟨w1.heap.size, 0, _, rfl, hs1, HBK.out, by simp [filled_len v k k (Nat.le_refl _)], ?_⟩⟩, HFK.out⟩
        simp [filled]
end Go.Proofs.Ytbfeopakmjcapaa
