/-
  What can be seen of a run: the iterator of package twin, and Trace.
-/
import Derived.Test.YtbfeopakmjcapaaErB
import Derived.Test.YtbfeopakmjcapaaSpO
set_option linter.unusedVariables false
set_option linter.unusedSimpArgs false
set_option maxHeartbeats 4000000
set_option maxRecDepth 8000
namespace Go.Proofs.Ytbfeopakmjcapaa.Sp
open Go.RowKit Go.Proofs.Ytbfeopakmjcapaa.Seq Go.Proofs.Ytbfeopakmjcapaa.Tso
attribute [local irreducible] wpStill wpList Calls CallsIn

abbrev SeenX := Bool × Leak
/-- A run of a script: what can be seen of it, and how it stands at last. -/
def traceS (s : SM) : List (Int × Int) → List SeenX
  | [] => []
  | d :: l => ((s.doIt d.1 d.2).2.2, (s.doIt d.1 d.2).2.1) :: traceS (s.doIt d.1 d.2).1 l
def after (s : SM) : List (Int × Int) → SM
  | [] => s
  | d :: l => after (s.doIt d.1 d.2).1 l
theorem after_snoc (d : Int × Int) : ∀ (l : List (Int × Int)) (s : SM), after s (l ++ [d]) = ((after s l).doIt d.1 d.2).1
  | [], _ => rfl
  | e :: l, s => after_snoc d l _
theorem trace_snoc (d : Int × Int) : ∀ (l : List (Int × Int)) (s : SM), traceS s (l ++ [d]) = traceS s l ++ [(((after s l).doIt d.1 d.2).2.2, ((after s l).doIt d.1 d.2).2.1)]
  | [], _ => rfl
  | e :: l, s => by
    rw [List.cons_append, traceS, traceS, trace_snoc d l, List.cons_append]
    rfl
theorem trace_app : ∀ (a b : List (Int × Int)) (s : SM), traceS s (a ++ b) = traceS s a ++ traceS (after s a) b
  | [], _, _ => rfl
  | d :: a, b, s => by
    rw [List.cons_append, traceS, traceS, trace_app a b, List.cons_append]
    rfl
theorem trace_len : ∀ (l : List (Int × Int)) (s : SM), (traceS s l).length = l.length
  | [], _ => rfl
  | d :: l, s => by rw [traceS, List.length_cons, trace_len l, List.length_cons]
theorem after_fits : ∀ (l : List (Int × Int)) {s : SM} {e : Nat}, Fits s e → Fits (after s l) (e + l.length)
  | [], _, _, h => h
  | d :: l, s, e, h => by
    have := after_fits l (h.doIt d.1 d.2)
    rw [List.length_cons, show e + (l.length + 1) = e + 1 + l.length by omega]
    exact this
theorem trace_prefix (s : SM) {a b : List (Int × Int)} (h : a <+: b) : traceS s a <+: traceS s b := by
  obtain ⟨c, rfl⟩ := h
  rw [trace_app]
  exact List.prefix_append _ _
def seenV (x : SeenX) : Array Value := #[.agg #[.bool x.1, .int .i64 x.2.kind, .int .i64 x.2.thread, .int .i64 x.2.what, .int .i64 x.2.n]]
def seenC (l : List SeenX) : List Value := l.flatMap fun x => [.bool x.1, .int .i64 x.2.kind, .int .i64 x.2.thread, .int .i64 x.2.what, .int .i64 x.2.n]
theorem seenC_app (a b : List SeenX) : seenC (a ++ b) = seenC a ++ seenC b := by simp [seenC]
theorem infoSEEN : (Try.prog.info? 101).map (fun i => (i.zero, i.size, i.bytes)) = some (some (.agg #[.bool false, .int .i64 0, .int .i64 0, .int .i64 0, .int .i64 0]), 5, 40) := by kernel_rfl

theorem trace1_runs (n : Nat) (hn : 3 ≤ n) (SB BL BM : Nat) (a : Option Addr) (c : Nat) (l : List (Int × Int)) (w0 : World) (s0 : SM) (e : Nat) (hfit : Fits s0 e) (hlen : e + l.length ≤ 100000)
    (hdos : ∀ (R : Nat → Prop) (st : SM) (L : List (Nat × Obj)) (W : World), At (SRp SB) w0 R st L W → (∀ b ∈ boxes BL BM SB a l.length c, b ∈ L) → Vw W 2 (fun _ => True) a l.length (dosC l)) :
    IterRuns Fence.wide n Try.prog 85 #[.pointer (some ⟨BL, 0, none⟩), .pointer (some ⟨BM, 0, none⟩)] seenV (SRp SB) (boxes BL BM SB a l.length c) w0 s0 (after s0 l) (traceS s0 l) := by
  intro l0 K R L W hat hK hKb hY
  have HY := hid hY
  have HKB := hid hKb
  have HAT := hid hat
  have HK := hid hK
  have HD := hid hdos
  have hm1 : (BL, Obj.cells #[.slice a l.length c] 27 (0, 0)) ∈ boxes BL BM SB a l.length c := by simp [boxes]
  have hm2 : (BM, Obj.cells #[.pointer (some ⟨SB, 0, none⟩)] 32 (0, 0)) ∈ boxes BL BM SB a l.length c := by simp [boxes]
  have HM1 := hid hm1
  have HM2 := hid hm2
  have hb1 : Blk W BL #[.slice a l.length c] 27 := (hat.keep _ (hKb _ _ hK _ hm1)).1
  have b1 := hb1.cell 0
  have lb1 := hb1.lt
  obtain ⟨LL, hLL⟩ : ∃ LL, LL = l.length := ⟨_, rfl⟩
  have HLL := hid hLL
  clear hb1 hat hK hKb hY hdos hm1 hm2
  refine callsIn_of_wp Try.func85 rfl trivial ?_ rfl
  simp only [Try.ntmps85, List.size_toArray, List.length_cons, List.length_nil, Nat.reduceAdd, Nat.reduceSub, Array.replicate_succ, Array.replicate_zero, List.push_toArray, List.append_toArray, List.nil_append, List.cons_append]
  gi_wp2
  gi_loopw [10] (fun i wr => ∃ (k : Nat) (R : Nat → Prop) (L : List (Nat × Obj)), k ≤ LL ∧ i = .int .i64 k ∧ At (SRp SB) w0 R (after s0 (l.take k)) L wr ∧ K (traceS s0 (l.take k)) L) (fun i _ => LL - (intOf i).toNat)
  case atStart => exact ⟨0, R, L, Nat.zero_le _, rfl, HAT.out, HK.out⟩
  case round =>
    obtain ⟨k, R, L, hk, rfl, hat, hkk⟩ := hrel
    have HF := hid (show Fits (after s0 (l.take k)) (e + k) from by
      have := after_fits (l.take k) hfit
      rw [List.length_take, Nat.min_eq_left (by rw [← HLL.out]; exact hk)] at this
      exact this)
    have HAT1 := hid hat
    have HK1 := hid hkk
    have hb2 : Blk wr BM #[.pointer (some ⟨SB, 0, none⟩)] 32 := (hat.keep _ (HKB.out _ _ hkk _ HM2.out)).1
    have bm := hb2.cell 0
    have lbm := hb2.lt
    by_cases hlt : k < LL
    · have hkl : k < l.length := by have := HLL.out; omega
      have hne : dosC l ≠ [] := fun h => by have := congrArg List.length h; rw [dosC_length] at this; simp only [List.length_nil] at this; omega
      obtain ⟨r0, off0, ha, hr0, hcell⟩ := (HD.out R _ L wr hat (fun b hb => HKB.out _ _ hkk b hb)).cell hne
      have c0 : wr.cell? ⟨r0, off0 + k * 2, none⟩ = some (.int .i64 l[k].1) := hcell (k * 2) _ (dosC_get l k hkl).1
      have c1 : wr.cell? ⟨r0, off0 + k * 2 + 1, none⟩ = some (.int .i64 l[k].2) := hcell (k * 2 + 1) _ (dosC_get l k hkl).2
      have htk : l.take (k + 1) = l.take k ++ [l[k]] := List.take_succ_eq_append_getElem hkl
      have hsn := trace_snoc l[k] (l.take k) s0
      have hsa := after_snoc l[k] (l.take k) s0
      rw [← htk] at hsn hsa
      have hpre : l.take (k + 1) <+: l := List.take_prefix _ _
      obtain ⟨s, hs⟩ : ∃ s, s = after s0 (l.take k) := ⟨_, rfl⟩
      obtain ⟨xs, hxs⟩ : ∃ xs, xs = traceS s0 (l.take k) := ⟨_, rfl⟩
      rw [← hs, ← hxs] at hsn
      rw [← hs] at HF HAT1 hsa
      rw [← hxs] at HK1
      have HSN := hid hsn
      have HSA := hid hsa
      clear hat hkk hcell hne htk hsn hsa hs hxs HAT HK hb2
      generalize l[k] = d at *
      obtain ⟨kind, who⟩ := d
      dsimp only at c0 c1 HSN HSA
      subst ha
      gi_wp2
      refine ⟨trivial, fun h => (by cases h), ?_⟩
      refine Calls.namedIn fun wc hwc => ?_
      have hfc : Fr (fun _ => False) wr wc := by rw [hwc]; (with_reducible repeat' (first | exact Fr.refl _ _ | apply Fr.alloc | apply Fr.drew | apply Fr.drewN | refine Fr.setCell ?_ ?_ _))
      obtain ⟨⟨s1, ⟨kk, kt, kw, kn⟩, is⟩, hres⟩ : ∃ r, r = s.doIt kind who := ⟨_, rfl⟩
      have hatd := HAT1.out.fr (srp_ok SB) hfc
      have hdi := do_is SB R s kind who wc hatd.rep HF.out.ok (HF.out.room (by omega)) HF.out.mem
      have hsn := HSN.out
      have hsa := HSA.out
      rw [← hres] at hdi hsn hsa
      refine (callsIn_wide.2 hdi).mono ?_
      rintro e' w4 ⟨rfl, R4, hm4, hv4⟩
      have hat4 := hatd.mv hm4 hv4.2.1 hv4.2.2
      have HAT4 := hid hat4
      have HSN1 := hid hsn
      have HSA1 := hid hsa
      dsimp only [leakV]
      clear hwc hfc hatd hdi hsn hsa hm4 hv4 hat4 hres HAT1 bm HSN HSA c0 c1 b1
      gi_wp2
      obtain ⟨w5, hw5⟩ : ∃ w5, w5 = w4.alloc (Obj.cells #[.int .i64 kk, .int .i64 kt, .int .i64 kw, .int .i64 kn] 37) := ⟨_, rfl⟩
      rw [← hw5]
      have hf5 : Fr (fun _ => False) w4 w5 := by rw [hw5]; (with_reducible repeat' (first | exact Fr.refl _ _ | apply Fr.alloc | apply Fr.drew | apply Fr.drewN | refine Fr.setCell ?_ ?_ _))
      have hat5 := HAT4.out.fr (srp_ok SB) hf5
      have hpre2 : xs ++ [(is, (⟨kk, kt, kw, kn⟩ : Leak))] <+: traceS s0 l := by
        have h1 := trace_prefix s0 hpre
        rw [HSN1.out] at h1
        exact h1
      obtain ⟨fn, tmps, assign, body, hy, hR⟩ := HY.out xs (is, ⟨kk, kt, kw, kn⟩) R4 s1 L w5 hpre2 hat5 HK1.out
      have hy2 : Sem.run Try.prog (Instr.yield l0 #[Value.agg #[.bool is, .int .i64 kk, .int .i64 kt, .int .i64 kw, .int .i64 kn]]) w5 = .ok (.round l0 fn tmps assign body) w5 := hy
      rw [hy2, Oper.uponIn_round]
      refine ⟨fun h => (by cases h), hR.mono ?_⟩
      rintro e' w6 ⟨rfl, L6, hat6, hk6⟩
      have HAT6 := hid hat6
      have HK6 := hid hk6
      clear hy hR hy2 hat5 hf5 hw5 hat6 hk6 HAT4
      gi_wp2
      go_roundw
      case rel =>
        refine ⟨k + 1, R4, L6, by omega, by go_num, ?_, ?_⟩
        · rw [HSA1.out]; exact HAT6.out.fr (srp_ok SB) (by (with_reducible repeat' (first | exact Fr.refl _ _ | apply Fr.alloc | apply Fr.drew | apply Fr.drewN | refine Fr.setCell ?_ ?_ _)))
        · rw [HSN1.out]; exact HK6.out
      case measure => simp [intOf]; omega
    · obtain rfl : k = LL := by omega
      have htk : l.take k = l := List.take_of_length_le (by rw [← HLL.out]; exact Nat.le_refl _)
      rw [htk] at hat hkk
      have HA9 := hid hat
      have HK9 := hid hkk
      clear hat hkk hb2 HAT1 HK1 HAT HK
      gi_wp2
      go_end0
      exact ⟨⟨_, rfl⟩, R, L, HA9.out.fr (srp_ok SB) (by (with_reducible repeat' (first | exact Fr.refl _ _ | apply Fr.alloc | apply Fr.drew | apply Fr.drewN | refine Fr.setCell ?_ ?_ _))), HK9.out⟩

attribute [local go_sem] Oper.semAt_some

theorem trace0_is (SB : Option Addr) (a : Option Addr) (n c : Nat) (w : World) :
    Calls Try.prog 68 #[.pointer SB, .slice a n c] w fun e w' => e = .returned (.func (.func 85) #[] #[.pointer (some ⟨w.heap.size + 1, 0, none⟩), .pointer (some ⟨w.heap.size, 0, none⟩)]) ∧
      Blk w' w.heap.size #[.pointer SB] 32 ∧ Blk w' (w.heap.size + 1) #[.slice a n c] 27 ∧ Fr (fun _ => False) w w' := by
  go_enter Try.func68, Try.ntmps68
  go_wp2_with (first | still_step | (with_reducible first | refine wpStill_nil ?_ | refine Flow.Both.mk ?_ ?_ | exact True.intro) | (with_reducible refine Flow.same_mk rfl rfl rfl ?_; go_simp; done) | (with_reducible exact Flow.same_un rfl rfl rfl) | (refine Flow.region_still mixed ?hB ?_; (case hB => decide +kernel)))
  go_ret
  exact ⟨rfl, (Blk.new w _ _).alloc _, Blk.new' (by simp), by (with_reducible repeat' (first | exact Fr.refl _ _ | apply Fr.alloc | apply Fr.drew | apply Fr.drewN | refine Fr.setCell ?_ ?_ _))⟩

/-- What Trace has in mind while it collects: its box, the iterator's boxes, its row. -/
def CollS (OB : Nat) (Lb : List (Nat × Obj)) (pre : List SeenX) (L : List (Nat × Obj)) : Prop :=
  ∃ (a : Option Addr) (c : Nat) (Lr : List (Nat × Obj)), L = (OB, .cells #[.slice a pre.length c] 98 (0, 0)) :: (Lb ++ Lr) ∧ Lr.length ≤ 1 ∧
    ∀ w', (∀ e ∈ Lr, w'.heap[e.1]? = some e.2) → OwnAt w' 101 5 (fun k => ∃ e ∈ Lr, k = e.1) a pre.length c (seenC pre)

theorem trace_is (Rc Rm : Nat → Prop) (ao am aa al : Option Addr) (co cm an ac cl : Nat) (qs : List ((Option Addr × Nat) × List Ins)) (words locks room : Nat) (window : Int) (mem : List Int) (l : List (Int × Int)) (w : World) (hc : Codes w Rc ao qs) (hm : Vw w 1 Rm am mem.length (ints mem)) (hmn : am = none → mem.length = 0)
    (hq : qs.length ≤ 1000) (hl : mem.length ≤ 100000) (hi : ∀ q ∈ qs, q.2.length ≤ 100000) (hw : words ≤ 65536) (hlk : locks ≤ 8) (hr : 1 ≤ room ∧ room ≤ 1000) (hwin : 1 ≤ window ∧ window ≤ 64)
    (hfit : Fits (startS (qs.map (·.2)) words mem locks room window) 0) (hll : l.length ≤ 1000) (hd : Vw w 2 (fun _ => True) al l.length (dosC l)) :
    Calls Try.prog 47 #[.agg #[.slice ao qs.length co, .slice aa an ac, .int .i64 (words : Int), .int .i64 (locks : Int)], .slice am mem.length cm, .agg #[.int .i64 (room : Int), .int .i64 window], .slice al l.length cl] w fun e w' =>
      ∃ a c, e = .returned (.slice a l.length c) ∧ OwnAt w' 101 5 (fun z => w.heap.size ≤ z) a l.length c (seenC (traceS (startS (qs.map (·.2)) words mem locks room window) l)) ∧ Fr (fun _ => False) w w' := by
  obtain ⟨i0, hi0, hz0, hz1, hz2⟩ := info_parts infoSEEN
  have HC := hid hc
  have HM := hid hm
  have HMN := hid hmn
  have HI := hid hi
  have HD := hid hd
  obtain ⟨s0, hs0⟩ : ∃ s, s = startS (qs.map (·.2)) words mem locks room window := ⟨_, rfl⟩
  rw [← hs0] at hfit ⊢
  have HS0 := hid hs0
  obtain ⟨QL, hQL⟩ : ∃ QL, QL = qs.length := ⟨_, rfl⟩
  have HQL := hid hQL
  rw [← hQL] at hq ⊢
  obtain ⟨ML, hML⟩ : ∃ ML, ML = mem.length := ⟨_, rfl⟩
  have HML := hid hML
  rw [← hML] at hl ⊢
  obtain ⟨LL, hLL⟩ : ∃ LL, LL = l.length := ⟨_, rfl⟩
  have HLL := hid hLL
  rw [← hLL] at hll ⊢
  clear hc hm hmn hi hd hs0 hQL hML hLL
  refine (callsIn_wide (n := 6)).1 ?_
  refine callsIn_of_wp_marks Try.func47 rfl trivial ?_ rfl
  simp only [Try.ntmps47, List.size_toArray, List.length_cons, List.length_nil, Nat.reduceAdd, Nat.reduceSub, Array.replicate_succ, Array.replicate_zero, List.push_toArray, List.append_toArray, List.nil_append, List.cons_append]
  gi_wp2
  refine ⟨trivial, ?_⟩
  refine Calls.namedIn fun wc hwc => ?_
  have hfc : Fr (fun _ => False) w wc := by rw [hwc]; (with_reducible repeat' (first | exact Fr.refl _ _ | apply Fr.alloc | apply Fr.drew | apply Fr.drewN | refine Fr.setCell ?_ ?_ _))
  rw [HQL.out, HML.out]
  refine (callsIn_wide.2 (snew_is Rc Rm ao am aa co cm an ac qs words locks room window mem wc (HC.out.fr hfc (fun _ _ h => h)) (HM.out.fr hfc (fun _ _ h => h)) HMN.out (by have := HQL.out; omega) (by have := HML.out; omega) HI.out hw hlk hr hwin)).mono ?_
  rintro e w1 ⟨SB, rfl, hs1, hf1⟩
  rw [← HS0.out] at hs1
  have hwc2 : w.heap.size ≤ wc.heap.size := hfc.size
  have HF1 := hid (hfc.trans hf1 (fun _ _ h => h))
  have HS1 := hid hs1
  rw [← HQL.out, ← HML.out]
  clear hwc hfc hs1
  gi_wp2
  refine ⟨trivial, ?_⟩
  refine Calls.namedIn fun wd hwd => ?_
  have hfd : Fr (fun _ => False) w1 wd := by rw [hwd]; (with_reducible repeat' (first | exact Fr.refl _ _ | apply Fr.alloc | apply Fr.drew | apply Fr.drewN | refine Fr.setCell ?_ ?_ _))
  have hob1 : Blk wd w1.heap.size #[.slice none 0 0] 98 := by rw [hwd]; exact Blk.new _ _ _
  refine (callsIn_wide.2 (trace0_is _ al LL cl wd)).mono ?_
  rintro e w2 ⟨rfl, hbm, hbl, hf2⟩
  have hsz1 := HF1.out.size
  have hlob := hob1.lt
  have hob2 := hob1.fr hf2 (fun h => h)
  have hsr2 := (HS1.out.fr hfd (fun _ _ h => h)).fr hf2 (fun _ _ h => h)
  have hszd : w1.heap.size ≤ wd.heap.size := hfd.size
  obtain ⟨BM, hBM⟩ : ∃ BM, BM = wd.heap.size := ⟨_, rfl⟩
  obtain ⟨OB, hOB⟩ : ∃ OB, OB = w1.heap.size := ⟨_, rfl⟩
  rw [← hBM] at hbm hbl
  rw [← hOB] at hob2
  have hat : At (SRp SB) w (fun k => wc.heap.size ≤ k ∧ k < w1.heap.size) s0 ((OB, .cells #[.slice none 0 0] 98 (0, 0)) :: (boxes (BM + 1) BM SB al LL cl ++ [])) w2 := by
    refine ⟨hsr2, ?_, ?_, (HF1.out.trans hfd (fun _ _ h => h)).trans hf2 (fun _ _ h => h), fun z hz => by have := hz.1; omega⟩
    · intro e he
      simp only [boxes, List.append_nil, List.mem_cons, List.not_mem_nil, or_false] at he
      rcases he with rfl | rfl | rfl
      · exact ⟨hob2, fun h => by have := h.2; dsimp only at this; omega, by dsimp only; omega⟩
      · exact ⟨hbl, fun h => by have := h.2; dsimp only at this; omega, by dsimp only; omega⟩
      · exact ⟨hbm, fun h => by have := h.2; dsimp only at this; omega, by dsimp only; omega⟩
    · simp [boxes]
      omega
  have HAT := hid hat
  rw [← hBM, ← hOB]
  clear hbm hbl hf2 hfd hwd hob2 hsr2 hat hBM hsz1 hlob hszd hob1 HS1 HF1 hOB hwc2
  gi_wp2
  have hle := HLL.out
  subst hle
  refine wpIn_rangeFunc_at (F := Fence.wide) rfl (by omega) (gf := 85) (lb := #[.pointer (some ⟨BM + 1, 0, none⟩), .pointer (some ⟨BM, 0, none⟩)]) rfl trivial (enters_of Try.func85 (by kernel_rfl) rfl) (srp_ok SB)
    (trace1_runs 5 (by omega) SB (BM + 1) BM al cl l w s0 0 hfit (by omega) ?dos) (fun x => rfl) HAT.out (CollS OB (boxes (BM + 1) BM SB al l.length cl)) ?start ?bxs
    (fun pre x L' a' => ∃ (DB : Nat) (L0 : List (Nat × Obj)), L' = (DB, .cells #[.bool x.1, .int .i64 x.2.kind, .int .i64 x.2.thread, .int .i64 x.2.what, .int .i64 x.2.n] 101 (0, 0)) :: L0 ∧ CollS OB (boxes (BM + 1) BM SB al l.length cl) pre L0 ∧
      a' = { tmps := #[Value.agg #[.slice ao QL co, .slice aa an ac, .int .i64 (words : Int), .int .i64 (locks : Int)], .slice am ML cm, .agg #[.int .i64 (room : Int), .int .i64 window], .slice al l.length cl, .pointer (some ⟨w.heap.size, 0, none⟩), undef, .pointer (some ⟨w.heap.size + 1, 0, none⟩), undef, .slice none 0 0, .pointer (some ⟨SB, 0, none⟩), .pointer (some ⟨OB, 0, none⟩), .pointer (some ⟨DB, 0, none⟩),
        .agg #[.slice ao QL co, .slice aa an ac, .int .i64 (words : Int), .int .i64 (locks : Int)], .slice am ML cm, .agg #[.int .i64 (room : Int), .int .i64 window], .pointer (some ⟨SB, 0, none⟩), .pointer (some ⟨SB, 0, none⟩), .bool false, .pointer (some ⟨SB, 0, none⟩), .slice al l.length cl, .func (.func 85) #[] #[.pointer (some ⟨BM + 1, 0, none⟩), .pointer (some ⟨BM, 0, none⟩)], .agg #[.bool x.1, .int .i64 x.2.kind, .int .i64 x.2.thread, .int .i64 x.2.what, .int .i64 x.2.n], undef, undef, undef, undef, undef], defers := [] })
    ?assign ?body ?done
  case dos => exact fun R st L W hat _ => HD.out.fr hat.fr0 (fun _ _ h => h)
  case start => exact ⟨none, 0, [], rfl, Nat.zero_le _, fun w' _ => OwnAt.nil _ _ _ _ _⟩
  case bxs =>
    rintro pre L ⟨a, c, Lr, rfl, _, _⟩ b hb
    exact List.mem_cons_of_mem _ (List.mem_append.2 (.inl hb))
  case assign =>
    intro l0 pre x R st Lx L W hpre hat hK
    simp only [seenV]
    gi_wp2
    exact ⟨(W.heap.size, .cells #[.bool x.1, .int .i64 x.2.kind, .int .i64 x.2.thread, .int .i64 x.2.what, .int .i64 x.2.n] 101 (0, 0)) :: L, at_alloc (srp_ok SB) hat _, W.heap.size, L, rfl, hK, rfl⟩
  case body =>
    rintro l0 pre x R st Lx L' a' W hpre hat ⟨DB, L0, rfl, ⟨a, c, Lr, rfl, hlr, hown⟩, rfl⟩
    obtain ⟨x0, x1, x2, x3, x4⟩ := x
    have hdb : Blk W DB #[.bool x0, .int .i64 x1, .int .i64 x2, .int .i64 x3, .int .i64 x4] 101 := (hat.keep _ (List.mem_append.2 (.inr (List.mem_cons_self ..)))).1
    have hob : Blk W OB #[.slice a pre.length c] 98 := (hat.keep _ (List.mem_append.2 (.inr (List.mem_cons_of_mem _ (List.mem_cons_self ..))))).1
    obtain ⟨PL, hPL⟩ : ∃ PL, PL = pre.length := ⟨_, rfl⟩
    have hpl : PL ≤ 1000 := by
      have h1 := hpre.length_le
      rw [trace_len] at h1
      rw [hPL]
      simp at h1
      omega
    have hown0 := hown W (fun e he => (hat.keep e (List.mem_append.2 (.inr (List.mem_cons_of_mem _ (List.mem_cons_of_mem _ (List.mem_append.2 (.inr he))))))).1)
    rw [← hPL] at hob hown0
    obtain ⟨Q, hQ⟩ : ∃ Q : Nat → Prop, Q = (fun k => ∃ e ∈ Lr, k = e.1) := ⟨_, rfl⟩
    rw [← hQ] at hown0
    have hnq : ¬ Q OB := by
      have hn := hat.nodup
      rw [List.map_append, List.nodup_append] at hn
      have hn := hn.2.1
      simp only [List.map_cons, List.nodup_cons, List.map_append, List.mem_append, not_or] at hn
      rw [hQ]
      rintro ⟨e, he, h⟩
      exact hn.2.1.2 (h ▸ List.mem_map.2 ⟨e, he, rfl⟩)
    have d0 := hdb.cell 0
    have d1 := hdb.cell 1
    have d2 := hdb.cell 2
    have d3 := hdb.cell 3
    have d4 := hdb.cell 4
    have o0 := hob.cell 0
    have of0 := hob.free 0
    have ldb := hdb.lt
    have lob := hob.lt
    have HAT2 := hid hat
    have HOW := hid hown0
    have HQ := hid hQ
    have HPL := hid hPL
    have HOBB := hid hob
    have hnq2 : ∀ w2, Fr Q W w2 → Blk w2 OB #[.slice a PL c] 98 := fun w2 hf => hob.fr hf hnq
    have HNQ := hid hnq2
    clear hat hown hown0 hQ hPL hdb hob hnq2
    gi_wp2_with (gi_at_builtin; refine wpListIn_append_Own _ rfl (.tmp 22) (.tmp 24) 98 rfl 101 i0 (.agg #[.bool false, .int .i64 0, .int .i64 0, .int .i64 0, .int .i64 0]) 5 40 Try.underlying98 hi0 hz0 hz1 hz2 rfl (by decide) Q (fun _ => True) a PL c (seenC pre) rfl ?own (some ⟨W.heap.size, 0, none⟩) 1 1 (seenC [(x0, ⟨x1, x2, x3, x4⟩)]) rfl ?vw ?one ?b1 ?b2 ?grow)
    case own => exact HOW.out.fr (S := fun _ => False) (by (with_reducible repeat' (first | exact Fr.refl _ _ | apply Fr.alloc | apply Fr.drew | apply Fr.drewN | refine Fr.setCell ?_ ?_ _))) (fun _ _ h => h)
    case vw => exact Vw.of_blk (sz := 5) (n := 1) (R := fun _ => True) (Blk.new W #[.bool x0, .int .i64 x1, .int .i64 x2, .int .i64 x3, .int .i64 x4] 101) trivial rfl
    case one => intro u hu; simp [seenC] at hu; rcases hu with rfl | rfl | rfl | rfl | rfl <;> rfl
    case b1 => unfold maxLen; omega
    case b2 => omega
    case grow =>
      intro ao' cap' w3 ho3 hf3
      have hfw : Fr Q W w3 := (show Fr Q W _ by (with_reducible repeat' (first | exact Fr.refl _ _ | apply Fr.alloc | apply Fr.drew | apply Fr.drewN | refine Fr.setCell ?_ ?_ _))).trans hf3 (fun _ _ h => h)
      have hb3 := HNQ.out w3 hfw
      have o0 := hb3.cell 0
      have of0 := hb3.free 0
      have lob3 := hb3.lt
      have HB3 := hid hb3
      have HFW := hid hfw
      have HO3 := hid ho3
      clear hb3 hfw ho3 hf3
      gi_wp2
      have hfs : Fr (fun z => z = OB) w3 (w3.setCell ⟨OB, 0, none⟩ (.slice ao' (PL + 1) cap')) := Fr.setCell (S := fun z => z = OB) (Fr.refl _ _) (fun _ => rfl) _
      have ho9 := HO3.out.fr hfs (fun z hz e => by
        subst e
        rcases hz with h | h
        · exact hnq h
        · (try simp at h); omega)
      obtain ⟨Lr', hl9, hL9, hown9⟩ := own_rowO ho9
      have e1 : (pre ++ [(x0, (⟨x1, x2, x3, x4⟩ : Leak))]).length = PL + 1 := by rw [List.length_append, ← HPL.out]; rfl
      refine ⟨(OB, .cells #[.slice ao' (pre ++ [(x0, (⟨x1, x2, x3, x4⟩ : Leak))]).length cap'] 98 (0, 0)) :: (boxes (BM + 1) BM SB al l.length cl ++ Lr'), ?_, ao', cap', Lr', rfl, hl9, ?_⟩
      · refine coll_end (srp_ok SB) HAT2.out (W' := w3.setCell ⟨OB, 0, none⟩ (.slice ao' (PL + 1) cap')) ?_ ?_ hl9 (fun e he => ?_)
        · exact (HFW.out.mono (fun z _ h => .inr (by rw [HQ.out] at h; exact h))).trans hfs (fun z _ h => .inl h)
        · rw [e1]
          exact Blk.set HB3.out 0 _
        · obtain ⟨h1, h2⟩ := hL9 e he
          refine ⟨h1, ?_⟩
          rcases h2 with h2 | h2
          · left; rw [HQ.out] at h2; exact h2
          · right; (try simp at h2); omega
      · rw [e1, seenC_app]
        exact hown9
  case done =>
    rintro D0 R' L' W hat ⟨a, c, Lr, rfl, hlr, hown⟩
    have hK : W.heap[D0]? = some (.deferred (some [])) := (hat.keep _ (List.mem_cons_self ..)).1
    have hob : Blk W OB #[.slice a (traceS s0 l).length c] 98 := (hat.keep _ (List.mem_cons_of_mem _ (List.mem_cons_self ..))).1
    have hmr : ∀ e ∈ Lr, e ∈ (D0, Obj.deferred (some [])) :: (OB, .cells #[.slice a (traceS s0 l).length c] 98 (0, 0)) :: (boxes (BM + 1) BM SB al l.length cl ++ Lr) := fun e he => List.mem_cons_of_mem _ (List.mem_cons_of_mem _ (List.mem_append.2 (.inr he)))
    have hown0 := hown W (fun e he => (hat.keep e (hmr e he)).1)
    have hown1 : OwnAt (W.putObj D0 (.deferred none)) 101 5 (fun z => w.heap.size ≤ z) a (traceS s0 l).length c (seenC (traceS s0 l)) := by
      refine (hown0.fr (At.fr_put W D0 (.deferred none)) ?_).mono ?_
      · rintro z ⟨e, he, rfl⟩ e2
        have hn := hat.nodup
        simp only [List.map_cons, List.nodup_cons] at hn
        exact hn.1 (e2 ▸ List.mem_cons_of_mem _ (List.mem_map.2 ⟨e, List.mem_append.2 (.inr he), rfl⟩))
      · rintro z _ ⟨e, he, rfl⟩
        exact (hat.keep e (hmr e he)).2.2
    have hfd : Fr (fun _ => False) w (W.putObj D0 (.deferred none)) := hat.fr0.trans (At.fr_put W D0 _) (fun z hz e => by
      subst e
      have := (hat.keep _ (List.mem_cons_self ..)).2.2
      dsimp only at this; omega)
    rw [trace_len] at hob hown1
    have o0 := hob.cell 0
    have lob := hob.lt
    have HOW1 := hid hown1
    have HFD := hid hfd
    have HK := hid hK
    clear hK hob hmr hown0 hown1 hfd hown hat
    obtain ⟨LL, hLL2⟩ : ∃ LL, LL = l.length := ⟨_, rfl⟩
    rw [← hLL2] at o0
    gi_wp2
    refine ⟨by simp, .inl ⟨_, _, rfl, run_takeDeferred HK.out, ?_⟩⟩
    subst hLL2
    exact ⟨_, results_tmp rfl _ _ _, a, c, rfl, HOW1.out, HFD.out⟩

theorem trace_none (Rc Rm : Nat → Prop) (ao am aa al : Option Addr) (co cm an ac cl n : Nat) (qs : List ((Option Addr × Nat) × List Ins)) (words locks : Nat) (room window : Int) (mem : List Int) (w : World) (hc : Codes w Rc ao qs) (hm : Vw w 1 Rm am mem.length (ints mem)) (hmn : am = none → mem.length = 0)
    (hq : qs.length ≤ 1000) (hl : mem.length ≤ 100000) (hi : ∀ q ∈ qs, q.2.length ≤ 100000) (hw : words ≤ 65536) (hlk : locks ≤ 8) (hbad : (room < 1 ∨ 1000 < room) ∨ (window < 1 ∨ 64 < window)) :
    Calls Try.prog 47 #[.agg #[.slice ao qs.length co, .slice aa an ac, .int .i64 (words : Int), .int .i64 (locks : Int)], .slice am mem.length cm, .agg #[.int .i64 room, .int .i64 window], .slice al n cl] w fun e w' => e = .returned (.slice none 0 0) ∧ Fr (fun _ => False) w w' := by
  have HC := hid hc
  have HM := hid hm
  have HMN := hid hmn
  have HI := hid hi
  obtain ⟨QL, hQL⟩ : ∃ QL, QL = qs.length := ⟨_, rfl⟩
  have HQL := hid hQL
  rw [← hQL] at hq ⊢
  obtain ⟨ML, hML⟩ : ∃ ML, ML = mem.length := ⟨_, rfl⟩
  have HML := hid hML
  rw [← hML] at hl ⊢
  have HBAD := hid hbad
  clear hc hm hmn hi hQL hML hbad
  refine (callsIn_wide (n := 6)).1 ?_
  refine callsIn_of_wp_marks Try.func47 rfl trivial ?_ rfl
  simp only [Try.ntmps47, List.size_toArray, List.length_cons, List.length_nil, Nat.reduceAdd, Nat.reduceSub, Array.replicate_succ, Array.replicate_zero, List.push_toArray, List.append_toArray, List.nil_append, List.cons_append]
  gi_wp2
  refine ⟨trivial, ?_⟩
  refine Calls.namedIn fun wc hwc => ?_
  have hfc : Fr (fun _ => False) w wc := by rw [hwc]; (with_reducible repeat' (first | exact Fr.refl _ _ | apply Fr.alloc | apply Fr.drew | apply Fr.drewN | refine Fr.setCell ?_ ?_ _))
  rw [HQL.out, HML.out]
  refine (callsIn_wide.2 (snew_none Rc Rm ao am aa co cm an ac qs words locks room window mem wc (HC.out.fr hfc (fun _ _ h => h)) (HM.out.fr hfc (fun _ _ h => h)) HMN.out (by have := HQL.out; omega) (by have := HML.out; omega) HI.out hw hlk HBAD.out)).mono ?_
  rintro e w1 ⟨rfl, hf1⟩
  have HF1 := hid (hfc.trans hf1 (fun _ _ h => h))
  rw [← HQL.out, ← HML.out]
  clear hwc hfc hf1
  gi_wp2
  exact ⟨_, results_tmp rfl _ _ _, rfl, HF1.out⟩
end Go.Proofs.Ytbfeopakmjcapaa.Sp

/-
  Where two runs part, and what memories are alike (plain Lean).
-/
namespace Go.Proofs.Ytbfeopakmjcapaa.Sp
open Go.RowKit Go.Proofs.Ytbfeopakmjcapaa.Seq Go.Proofs.Ytbfeopakmjcapaa.Tso

/-- A run with any size: none, if the size can't be. -/
def traceP (codes : List (List Ins)) (words locks : Nat) (room window : Int) (l : List (Int × Int)) (mem : List Int) : List SeenX :=
  if (1 ≤ room ∧ room ≤ 1000) ∧ (1 ≤ window ∧ window ≤ 64) then traceS (startS codes words mem locks room.toNat window) l else []
theorem traceP_len (codes : List (List Ins)) (words locks : Nat) (room window : Int) (l : List (Int × Int)) (mem : List Int) : (traceP codes words locks room window l mem).length = if (1 ≤ room ∧ room ≤ 1000) ∧ (1 ≤ window ∧ window ≤ 64) then l.length else 0 := by
  unfold traceP
  split
  · exact trace_len _ _
  · rfl
theorem traceP_same (codes : List (List Ins)) (words locks : Nat) (room window : Int) (l : List (Int × Int)) (m m' : List Int) : (traceP codes words locks room window l m).length = (traceP codes words locks room window l m').length := by
  rw [traceP_len, traceP_len]
theorem traceP_le (codes : List (List Ins)) (words locks : Nat) (room window : Int) (l : List (Int × Int)) (m : List Int) : (traceP codes words locks room window l m).length ≤ l.length := by
  rw [traceP_len]
  split
  · exact Nat.le_refl _
  · exact Nat.zero_le _
theorem traceP_prefix (codes : List (List Ins)) (words locks : Nat) (room window : Int) {a b : List (Int × Int)} (h : a <+: b) (m : List Int) : traceP codes words locks room window a m <+: traceP codes words locks room window b m := by
  unfold traceP
  split
  · exact trace_prefix _ h
  · exact List.prefix_refl _

/-- The first place at which two rows differ; below 0: none. -/
def partI (a b : List SeenX) : Int := match (List.range a.length).find? fun i => !(a[i]? == b[i]?) with
  | some i => (i : Int)
  | none => -1
theorem find_none {n : Nat} {p : Nat → Bool} (h : ∀ i, i < n → p i = false) : (List.range n).find? p = none := by
  rw [List.find?_eq_none]
  intro i hi
  rw [h i (List.mem_range.1 hi)]
  simp
theorem find_some {n k : Nat} {p : Nat → Bool} (hk : k < n) (h : ∀ i, i < k → p i = false) (hp : p k = true) : (List.range n).find? p = some k := by
  rw [List.find?_range_eq_some]
  exact ⟨hp, List.mem_range.2 hk, fun j hj => by rw [h j hj]; rfl⟩
theorem partI_none {a b : List SeenX} (h : ∀ i, i < a.length → a[i]? = b[i]?) : partI a b = -1 := by
  unfold partI
  rw [find_none (fun i hi => by rw [h i hi]; simp)]
theorem partI_at {a b : List SeenX} {k : Nat} (hk : k < a.length) (h : ∀ i, i < k → a[i]? = b[i]?) (hd : a[k]? ≠ b[k]?) : partI a b = k := by
  unfold partI
  rw [find_some hk (fun i hi => by rw [h i hi]; simp) (by simpa using hd)]
theorem partI_cases (a b : List SeenX) : (partI a b = -1 ∧ ∀ i, i < a.length → a[i]? = b[i]?) ∨ ∃ k, partI a b = (k : Nat) ∧ k < a.length ∧ (∀ i, i < k → a[i]? = b[i]?) ∧ a[k]? ≠ b[k]? := by
  unfold partI
  cases h : (List.range a.length).find? fun i => !(a[i]? == b[i]?) with
  | none =>
    left
    refine ⟨rfl, fun i hi => ?_⟩
    rw [List.find?_eq_none] at h
    simpa using h i (List.mem_range.2 hi)
  | some k =>
    right
    rw [List.find?_range_eq_some] at h
    obtain ⟨h1, h2, h3⟩ := h
    refine ⟨k, rfl, List.mem_range.1 h2, fun i hi => ?_, by simpa using h1⟩
    simpa using h3 i hi
theorem partI_swap {a b : List SeenX} (hl : a.length = b.length) : partI b a = partI a b := by
  rcases partI_cases a b with ⟨h1, h2⟩ | ⟨k, h1, h2, h3, h4⟩
  · rw [h1]; exact partI_none (fun i hi => (h2 i (by omega)).symm)
  · rw [h1]; exact partI_at (by omega) (fun i hi => (h3 i hi).symm) (fun e => h4 e.symm)
theorem partI_self (a : List SeenX) : partI a a = -1 := partI_none (fun _ _ => rfl)
/-- With more behind both, they part at the same place, or in what is more. -/
theorem partI_more {a b a' b' : List SeenX} (hl : a.length = b.length) (ha : a <+: a') (hb : b <+: b') : (partI a b < 0 ∧ (partI a' b' < 0 ∨ (a.length : Int) ≤ partI a' b')) ∨ (0 ≤ partI a b ∧ partI a' b' = partI a b) := by
  have ga : ∀ i, i < a.length → a'[i]? = a[i]? := fun i hi => by obtain ⟨z, rfl⟩ := ha; exact List.getElem?_append_left hi
  have gb : ∀ i, i < a.length → b'[i]? = b[i]? := fun i hi => by obtain ⟨z, rfl⟩ := hb; exact List.getElem?_append_left (by omega)
  have hle := ha.length_le
  rcases partI_cases a b with ⟨h1, h2⟩ | ⟨k, h1, h2, h3, h4⟩
  · left
    refine ⟨by omega, ?_⟩
    rcases partI_cases a' b' with ⟨g1, _⟩ | ⟨j, g1, g2, g3, g4⟩
    · left; omega
    · right
      rw [g1]
      by_cases hj : j < a.length
      · exact absurd ((ga j hj).trans ((h2 j hj).trans (gb j hj).symm)) g4
      · omega
  · right
    refine ⟨by omega, ?_⟩
    rw [h1]
    exact partI_at (by omega) (fun i hi => by rw [ga i (by omega), gb i (by omega)]; exact h3 i hi) (by rw [ga k h2, gb k h2]; exact h4)

/-- Have two memories the same words in an area? -/
def alike1 (a b : List Int) (base len : Int) : Bool := (List.range len.toNat).all fun k => a.getD (base.toNat + k) 0 == b.getD (base.toNat + k) 0
def alikeP (al : List (Int × Int × Bool)) (a b : List Int) : Bool := al.all fun x => x.2.2 || alike1 a b x.1 x.2.1
theorem alikeP_self (al : List (Int × Int × Bool)) (a : List Int) : alikeP al a a = true := by simp [alikeP, alike1]
theorem alikeP_swap (al : List (Int × Int × Bool)) (a b : List Int) : alikeP al b a = alikeP al a b := by
  unfold alikeP alike1
  congr 1
  funext x
  congr 1
  congr 1
  funext k
  exact Bool.beq_comm
theorem alike_no {al : List (Int × Int × Bool)} {a b : List Int} {k j : Nat} (hk : k < al.length) (hs : al[k].2.2 = false) (hj : j < al[k].2.1.toNat) (hd : a.getD (al[k].1.toNat + j) 0 ≠ b.getD (al[k].1.toNat + j) 0) : alikeP al a b = false := by
  cases h : alikeP al a b with
  | false => rfl
  | true =>
    have h1 := List.all_eq_true.1 h al[k] (List.getElem_mem hk)
    rw [hs, Bool.false_or] at h1
    have h2 := List.all_eq_true.1 h1 j (List.mem_range.2 hj)
    exact absurd (by simpa using h2) hd
theorem alike_step {al : List (Int × Int × Bool)} {a b : List Int} {k : Nat} (hk : k < al.length) (h : alikeP (al.take k) a b = true) (h1 : al[k].2.2 = true ∨ alike1 a b al[k].1 al[k].2.1 = true) : alikeP (al.take (k + 1)) a b = true := by
  unfold alikeP at *
  rw [List.take_succ_eq_append_getElem hk, List.all_append, h]
  rcases h1 with h1 | h1 <;> simp [h1]

/-- The k-th script that is tried. -/
def scriptD (thread : Int) (k : Nat) : List (Int × Int) := (List.range 24).map fun i => (if i = k % 24 then 2 else if i = k / 24 then 3 else 0, thread)
theorem scriptD_len (thread : Int) (k : Nat) : (scriptD thread k).length = 24 := by simp [scriptD]
/-- The first script that parts two runs. -/
def searchP (codes : List (List Ins)) (words locks : Nat) (room window : Int) (A B : List Int) (thread : Int) : Nat → Nat → List (Int × Int)
  | 0, _ => []
  | n + 1, k =>
    let at' := partI (traceP codes words locks room window (scriptD thread k) A) (traceP codes words locks room window (scriptD thread k) B)
    if 0 ≤ at' then (scriptD thread k).take (at'.toNat + 1) else searchP codes words locks room window A B thread n (k + 1)
end Go.Proofs.Ytbfeopakmjcapaa.Sp

/-
  Part, Alike and Search of package twin.
-/
namespace Go.Proofs.Ytbfeopakmjcapaa.Sp
open Go.RowKit Go.Proofs.Ytbfeopakmjcapaa.Seq Go.Proofs.Ytbfeopakmjcapaa.Tso
attribute [local irreducible] wpStill wpList Calls CallsIn

theorem trace_any (Rc Rm : Nat → Prop) (ao am aa al : Option Addr) (co cm an ac cl : Nat) (qs : List ((Option Addr × Nat) × List Ins)) (words locks : Nat) (room window : Int) (mem : List Int) (l : List (Int × Int)) (w : World) (hc : Codes w Rc ao qs) (hm : Vw w 1 Rm am mem.length (ints mem)) (hmn : am = none → mem.length = 0)
    (hq : qs.length ≤ 1000) (hl : mem.length ≤ 100000) (hi : ∀ q ∈ qs, q.2.length ≤ 100000) (hw : words ≤ 65536) (hlk : locks ≤ 8) (hok : ∀ q ∈ qs, ∀ i ∈ q.2, insOk q.2.length locks i) (hll : l.length ≤ 1000) (hd : Vw w 2 (fun _ => True) al l.length (dosC l)) :
    Calls Try.prog 47 #[.agg #[.slice ao qs.length co, .slice aa an ac, .int .i64 (words : Int), .int .i64 (locks : Int)], .slice am mem.length cm, .agg #[.int .i64 room, .int .i64 window], .slice al l.length cl] w fun e w' =>
      ∃ a c, e = .returned (.slice a (traceP (qs.map (·.2)) words locks room window l mem).length c) ∧ Vw w' 5 (fun _ => True) a (traceP (qs.map (·.2)) words locks room window l mem).length (seenC (traceP (qs.map (·.2)) words locks room window l mem)) ∧ Fr (fun _ => False) w w' := by
  by_cases hg : (1 ≤ room ∧ room ≤ 1000) ∧ (1 ≤ window ∧ window ≤ 64)
  · obtain ⟨rm, rfl⟩ : ∃ n : Nat, room = n := ⟨room.toNat, by omega⟩
    have e : traceP (qs.map (·.2)) words locks (rm : Nat) window l mem = traceS (startS (qs.map (·.2)) words mem locks rm window) l := by
      unfold traceP
      rw [if_pos hg, Int.toNat_natCast]
    rw [e, trace_len]
    have hfit : Fits (startS (qs.map (·.2)) words mem locks rm window) 0 := start_fits (fun c hc i hi => by
      obtain ⟨q, hq, rfl⟩ := List.mem_map.1 hc
      exact hok q hq i hi) (by omega) hg.2 (by omega)
    refine (trace_is Rc Rm ao am aa al co cm an ac cl qs words locks rm window mem l w hc hm hmn hq hl hi hw hlk (by omega) hg.2 hfit hll hd).mono ?_
    rintro e w' ⟨a, c, rfl, ho, hf⟩
    exact ⟨a, c, rfl, ho.vw.mono (fun _ _ => trivial), hf⟩
  · have e : traceP (qs.map (·.2)) words locks room window l mem = [] := by unfold traceP; rw [if_neg hg]
    rw [e]
    refine (trace_none Rc Rm ao am aa al co cm an ac cl l.length qs words locks room window mem w hc hm hmn hq hl hi hw hlk (by omega)).mono ?_
    rintro e w' ⟨rfl, hf⟩
    exact ⟨none, 0, rfl, ⟨rfl, .inl rfl⟩, hf⟩

theorem seenC_len (l : List SeenX) : (seenC l).length = l.length * 5 := by
  unfold seenC
  induction l with
  | nil => rfl
  | cons a l ih => rw [List.flatMap_cons, List.length_append, ih, List.length_cons]; simp; omega
theorem seenC_get (l : List SeenX) (k : Nat) (h : k < l.length) : (seenC l)[k * 5]? = some (.bool l[k].1) ∧ (seenC l)[k * 5 + 1]? = some (.int .i64 l[k].2.kind) ∧ (seenC l)[k * 5 + 2]? = some (.int .i64 l[k].2.thread) ∧
    (seenC l)[k * 5 + 3]? = some (.int .i64 l[k].2.what) ∧ (seenC l)[k * 5 + 4]? = some (.int .i64 l[k].2.n) := by
  induction l generalizing k with
  | nil => simp at h
  | cons a l ih =>
    unfold seenC at ih ⊢
    rw [List.flatMap_cons]
    cases k with
    | zero => simp
    | succ k =>
      have e : ∀ j, (k + 1) * 5 + j = 5 + (k * 5 + j) := fun j => by omega
      have g := ih k (by simpa using h)
      rw [e 1, e 2, e 3, e 4, show (k + 1) * 5 = 5 + (k * 5) by omega]
      rw [List.getElem?_append_right (by simp), List.getElem?_append_right (by simp), List.getElem?_append_right (by simp), List.getElem?_append_right (by simp), List.getElem?_append_right (by simp)]
      simpa using g
theorem seenC_ne {l : List SeenX} {k : Nat} (h : k < l.length) : seenC l ≠ [] := fun e => by have := congrArg List.length e; rw [seenC_len] at this; simp only [List.length_nil] at this; omega
/-- The cells of what was seen at a place. -/
structure SeenAt (w : World) (r o : Nat) (x : SeenX) : Prop where
  c0 : w.cell? ⟨r, o, none⟩ = some (.bool x.1)
  c1 : w.cell? ⟨r, o + 1, none⟩ = some (.int .i64 x.2.kind)
  c2 : w.cell? ⟨r, o + 2, none⟩ = some (.int .i64 x.2.thread)
  c3 : w.cell? ⟨r, o + 3, none⟩ = some (.int .i64 x.2.what)
  c4 : w.cell? ⟨r, o + 4, none⟩ = some (.int .i64 x.2.n)
theorem seen_at {w : World} {a : Option Addr} {n : Nat} {l : List SeenX} {k : Nat} (h : Vw w 5 (fun _ => True) a n (seenC l)) (hk : k < l.length) : ∃ r o, a = some ⟨r, o, none⟩ ∧ SeenAt w r (o + k * 5) l[k] := by
  obtain ⟨r, o, e, _, hc⟩ := h.cell (seenC_ne hk)
  obtain ⟨g0, g1, g2, g3, g4⟩ := seenC_get l k hk
  exact ⟨r, o, e, hc _ _ g0, hc _ _ g1, hc _ _ g2, hc _ _ g3, hc _ _ g4⟩

theorem run_neqSeen {o : Oper} {a : Act} {w : World} {ox oy : Operand} {t2 : TypeId} (b : Bool) (x0 y0 : Bool) (x1 x2 x3 x4 y1 y2 y3 y4 : Int) (hb : b = decide ((x0, (⟨x1, x2, x3, x4⟩ : Leak)) ≠ (y0, (⟨y1, y2, y3, y4⟩ : Leak)))) (ho : o.op = .binOp .neq 101 ox oy t2) (hx : a.eval ox = .agg #[.bool x0, .int .i64 x1, .int .i64 x2, .int .i64 x3, .int .i64 x4]) (hy : a.eval oy = .agg #[.bool y0, .int .i64 y1, .int .i64 y2, .int .i64 y3, .int .i64 y4]) :
    (execOp a.eval o).run Try.prog w = .ok (.value (.bool b)) w := by
  subst hb
  unfold execOp
  simp only [ho, hx, hy]
  go_simp
  by_cases h0 : x0 = y0 <;> by_cases h1 : x1 = y1 <;> by_cases h2 : x2 = y2 <;> by_cases h3 : x3 = y3 <;> by_cases h4 : x4 = y4 <;> simp [h0, h1, h2, h3, h4]

theorem part_is (Rc Rm : Nat → Prop) (ao aa a1 a2 al : Option Addr) (co ac an c1 c2 cl : Nat) (qs : List ((Option Addr × Nat) × List Ins)) (words locks : Nat) (room window : Int) (ma mb : List Int) (l : List (Int × Int)) (w : World) (hc : Codes w Rc ao qs) (hma : Vw w 1 Rm a1 ma.length (ints ma)) (hna : a1 = none → ma.length = 0)
    (hmb : Vw w 1 Rm a2 mb.length (ints mb)) (hnb : a2 = none → mb.length = 0)
    (hq : qs.length ≤ 1000) (hla : ma.length ≤ 100000) (hlb : mb.length ≤ 100000) (hi : ∀ q ∈ qs, q.2.length ≤ 100000) (hw : words ≤ 65536) (hlk : locks ≤ 8) (hok : ∀ q ∈ qs, ∀ i ∈ q.2, insOk q.2.length locks i) (hll : l.length ≤ 1000) (hd : Vw w 2 (fun _ => True) al l.length (dosC l)) :
    Calls Try.prog 28 #[.agg #[.slice ao qs.length co, .slice aa an ac, .int .i64 (words : Int), .int .i64 (locks : Int), .slice a1 ma.length c1, .slice a2 mb.length c2, .int .i64 room, .int .i64 window, .slice al l.length cl]] w fun e w' =>
      e = .returned (.int .i64 (partI (traceP (qs.map (·.2)) words locks room window l ma) (traceP (qs.map (·.2)) words locks room window l mb))) ∧ Fr (fun _ => False) w w' := by
  have hta := fun W (h1 : Codes W Rc ao qs) (h2 : Vw W 1 Rm a1 ma.length (ints ma)) (h3 : Vw W 2 (fun _ => True) al l.length (dosC l)) => trace_any Rc Rm ao a1 aa al co c1 an ac cl qs words locks room window ma l W h1 h2 hna hq hla hi hw hlk hok hll h3
  have htb := fun W (h1 : Codes W Rc ao qs) (h2 : Vw W 1 Rm a2 mb.length (ints mb)) (h3 : Vw W 2 (fun _ => True) al l.length (dosC l)) => trace_any Rc Rm ao a2 aa al co c2 an ac cl qs words locks room window mb l W h1 h2 hnb hq hlb hi hw hlk hok hll h3
  have hsm := traceP_same (qs.map (·.2)) words locks room window l ma mb
  have hle := traceP_le (qs.map (·.2)) words locks room window l ma
  obtain ⟨TA, hTA⟩ : ∃ x, x = traceP (qs.map (·.2)) words locks room window l ma := ⟨_, rfl⟩
  obtain ⟨TB, hTB⟩ : ∃ x, x = traceP (qs.map (·.2)) words locks room window l mb := ⟨_, rfl⟩
  rw [← hTA] at hta hsm hle ⊢
  rw [← hTB] at htb hsm ⊢
  have HC := hid hc
  have HD := hid hd
  have HMA := hid hma
  have HMB := hid hmb
  obtain ⟨QL, hQL⟩ : ∃ x, x = qs.length := ⟨_, rfl⟩
  obtain ⟨AL, hAL⟩ : ∃ x, x = ma.length := ⟨_, rfl⟩
  obtain ⟨BL, hBL⟩ : ∃ x, x = mb.length := ⟨_, rfl⟩
  obtain ⟨LL, hLL⟩ : ∃ x, x = l.length := ⟨_, rfl⟩
  rw [← hQL, ← hAL, ← hLL] at hta
  rw [← hQL, ← hBL, ← hLL] at htb
  rw [← hAL] at HMA
  rw [← hBL] at HMB
  rw [← hLL] at HD hll hle
  rw [← hQL, ← hAL, ← hBL, ← hLL]
  obtain ⟨N, hN⟩ : ∃ x, x = TA.length := ⟨_, rfl⟩
  rw [← hsm, ← hN] at htb
  rw [← hN] at hta hle
  have HTA := hid hta
  have HTB := hid htb
  have HN := hid hN
  have HNB := hid (show N = TB.length from hN.trans hsm)
  have hN2 : N ≤ 1000 := by omega
  clear hTA hTB hta htb hsm hc hd hma hmb hQL hAL hBL hLL hN hq hla hlb hi hok hna hnb
  have HX := hid (Blk.new w #[.slice ao QL co, .slice aa an ac, .int .i64 (words : Int), .int .i64 (locks : Int), .slice a1 AL c1, .slice a2 BL c2, .int .i64 room, .int .i64 window, .slice al LL cl] 69)
  go_enter Try.func28, Try.ntmps28
  go_wp2_with (first | still_step | (with_reducible first | refine wpStill_nil ?_ | refine Flow.Both.mk ?_ ?_ | exact True.intro) | (with_reducible refine Flow.same_mk rfl rfl rfl ?_; go_simp; done) | (with_reducible exact Flow.same_un rfl rfl rfl) | (refine Flow.region_still mixed ?hB ?_; (case hB => decide +kernel)))
  go_at_call 47
  refine Calls.named fun wc hwc => ?_
  have hfc : Fr (fun _ => False) w wc := by rw [hwc]; (with_reducible repeat' (first | exact Fr.refl _ _ | apply Fr.alloc | apply Fr.drew | apply Fr.drewN | refine Fr.setCell ?_ ?_ _))
  have hxc : Blk wc w.heap.size #[.slice ao QL co, .slice aa an ac, .int .i64 (words : Int), .int .i64 (locks : Int), .slice a1 AL c1, .slice a2 BL c2, .int .i64 room, .int .i64 window, .slice al LL cl] 69 := by rw [hwc]; (repeat (first | exact HX.out | with_reducible apply Blk.drew | with_reducible apply Blk.alloc))
  refine (HTB.out wc (HC.out.fr hfc (fun _ _ h => h)) (HMB.out.fr hfc (fun _ _ h => h)) (HD.out.fr hfc (fun _ _ h => h))).mono ?_
  rintro e w1 ⟨b1, d1, rfl, hv1, hf1⟩
  have hx1 := hxc.fr hf1 (fun h => h)
  have c0_p := Blk.cell hx1 0
  have f0_p := Blk.free hx1 0
  have c1_p := Blk.cell hx1 1
  have f1_p := Blk.free hx1 1
  have c2_p := Blk.cell hx1 2
  have f2_p := Blk.free hx1 2
  have c3_p := Blk.cell hx1 3
  have f3_p := Blk.free hx1 3
  have c4_p := Blk.cell hx1 4
  have f4_p := Blk.free hx1 4
  have c5_p := Blk.cell hx1 5
  have f5_p := Blk.free hx1 5
  have c6_p := Blk.cell hx1 6
  have f6_p := Blk.free hx1 6
  have c7_p := Blk.cell hx1 7
  have f7_p := Blk.free hx1 7
  have c8_p := Blk.cell hx1 8
  have f8_p := Blk.free hx1 8
  have l_p := Blk.lt hx1
  have HF1 := hid (hfc.trans hf1 (fun _ _ h => h))
  have HVB := hid hv1
  clear hwc hfc hxc hf1 hx1 hv1 HX
  go_wp2_with (first | still_step | (with_reducible first | refine wpStill_nil ?_ | refine Flow.Both.mk ?_ ?_ | exact True.intro) | (with_reducible refine Flow.same_mk rfl rfl rfl ?_; go_simp; done) | (with_reducible exact Flow.same_un rfl rfl rfl) | (refine Flow.region_still mixed ?hB ?_; (case hB => decide +kernel)))
  go_at_call 47
  refine Calls.named fun wc hwc => ?_
  have hfc : Fr (fun _ => False) w1 wc := by rw [hwc]; (with_reducible repeat' (first | exact Fr.refl _ _ | apply Fr.alloc | apply Fr.drew | apply Fr.drewN | refine Fr.setCell ?_ ?_ _))
  have HF2 := hid (HF1.out.trans hfc (fun _ _ h => h))
  refine (HTA.out wc (HC.out.fr HF2.out (fun _ _ h => h)) (HMA.out.fr HF2.out (fun _ _ h => h)) (HD.out.fr HF2.out (fun _ _ h => h))).mono ?_
  rintro e w2 ⟨b2, d2, rfl, hv2, hf2⟩
  have HF3 := hid (HF2.out.trans hf2 (fun _ _ h => h))
  have HVB2 := hid ((HVB.out.fr hfc (fun _ _ h => h)).fr hf2 (fun _ _ h => h))
  have HVA2 := hid hv2
  clear hwc hfc hf2 hv2 HF1 HF2 HVB c0_p f0_p c1_p f1_p c2_p f2_p c3_p f3_p c4_p f4_p c5_p f5_p c6_p f6_p c7_p f7_p c8_p f8_p l_p
  go_wp2_with (first | still_step | (with_reducible first | refine wpStill_nil ?_ | refine Flow.Both.mk ?_ ?_ | exact True.intro) | (with_reducible refine Flow.same_mk rfl rfl rfl ?_; go_simp; done) | (with_reducible exact Flow.same_un rfl rfl rfl) | (refine Flow.region_still mixed ?hB ?_; (case hB => decide +kernel)))
  go_loopw [25] (fun i wr => ∃ k : Nat, k ≤ N ∧ i = .int .i64 k ∧ (∀ j, j < k → TA[j]? = TB[j]?) ∧ Fr (fun _ => False) w2 wr) (fun i _ => N - (intOf i).toNat)
  case atStart => exact ⟨0, Nat.zero_le _, rfl, fun j hj => absurd hj (Nat.not_lt_zero _), Fr.refl _ _⟩
  case round =>
    obtain ⟨k, hk, rfl, heq, hf⟩ := hrel
    have HEQ := hid heq
    have HF := hid hf
    clear heq hf
    by_cases hlt : k < N
    · have hka : k < TA.length := by have := HN.out; omega
      have hkb : k < TB.length := by have := HNB.out; omega
      obtain ⟨ra, oa, rfl, hsa⟩ := seen_at (HVA2.out.fr HF.out (fun _ _ h => h)) hka
      obtain ⟨rb, ob, rfl, hsb⟩ := seen_at (HVB2.out.fr HF.out (fun _ _ h => h)) hkb
      have HPE := hid (show TA[k] = TB[k] → ∀ j, j < k + 1 → TA[j]? = TB[j]? from fun e j hj => by
        by_cases hjk : j < k
        · exact HEQ.out j hjk
        · obtain rfl : j = k := by omega
          simp [hka, hkb, e])
      have HPN := hid (show TA[k] ≠ TB[k] → partI TA TB = k from fun e => partI_at hka HEQ.out (by simpa [hka, hkb] using e))
      have hlt2 : ((k : Nat) : Int) < (N : Nat) := by omega
      generalize TA[k] = x at *
      generalize TB[k] = y at *
      obtain ⟨x0, x1, x2, x3, x4⟩ := x
      obtain ⟨y0, y1, y2, y3, y4⟩ := y
      obtain ⟨p0, p1, p2, p3, p4⟩ := hsa
      obtain ⟨q0, q1, q2, q3, q4⟩ := hsb
      dsimp only at p0 p1 p2 p3 p4 q0 q1 q2 q3 q4
      have lra := World.block_lt_of_cell? _ _ p0
      have lrb := World.block_lt_of_cell? _ _ q0
      dsimp only at lra lrb
      by_cases hxy : (x0, (⟨x1, x2, x3, x4⟩ : Leak)) = (y0, (⟨y1, y2, y3, y4⟩ : Leak))
      · have hb : false = decide ((x0, (⟨x1, x2, x3, x4⟩ : Leak)) ≠ (y0, (⟨y1, y2, y3, y4⟩ : Leak))) := by rw [eq_comm]; simpa using hxy
        have HB := hid hb
        have HE := hid (HPE.out hxy)
        clear hb hxy
        go_wp2_with (first | ((with_reducible apply wpStill_gives); (case zlw => rfl); (case zlr => exact run_neqSeen false x0 y0 x1 x2 x3 x4 y1 y2 y3 y4 HB.out rfl rfl rfl)) | still_step | (with_reducible first | refine wpStill_nil ?_ | refine Flow.Both.mk ?_ ?_ | exact True.intro) | (with_reducible refine Flow.same_mk rfl rfl rfl ?_; go_simp; done) | (with_reducible exact Flow.same_un rfl rfl rfl) | (refine Flow.region_still mixed ?hB ?_; (case hB => decide +kernel)))
        go_roundw
        case rel => exact ⟨k + 1, by omega, by go_num, HE.out, HF.out.trans (show Fr (fun _ => False) wr _ by (with_reducible repeat' (first | exact Fr.refl _ _ | apply Fr.alloc | apply Fr.drew | apply Fr.drewN | refine Fr.setCell ?_ ?_ _))) (fun _ _ h => h)⟩
        case measure => simp [intOf]; omega
      · have hb : true = decide ((x0, (⟨x1, x2, x3, x4⟩ : Leak)) ≠ (y0, (⟨y1, y2, y3, y4⟩ : Leak))) := (decide_eq_true hxy).symm
        have HB := hid hb
        have HE := hid (HPN.out hxy)
        clear hb hxy
        go_wp2_with (first | ((with_reducible apply wpStill_gives); (case zlw => rfl); (case zlr => exact run_neqSeen true x0 y0 x1 x2 x3 x4 y1 y2 y3 y4 HB.out rfl rfl rfl)) | still_step | (with_reducible first | refine wpStill_nil ?_ | refine Flow.Both.mk ?_ ?_ | exact True.intro) | (with_reducible refine Flow.same_mk rfl rfl rfl ?_; go_simp; done) | (with_reducible exact Flow.same_un rfl rfl rfl) | (refine Flow.region_still mixed ?hB ?_; (case hB => decide +kernel)))
        go_ret
        exact ⟨by rw [HE.out]; rfl, HF3.out.trans (HF.out.trans (show Fr (fun _ => False) wr _ by (with_reducible repeat' (first | exact Fr.refl _ _ | apply Fr.alloc | apply Fr.drew | apply Fr.drewN | refine Fr.setCell ?_ ?_ _))) (fun _ _ h => h)) (fun _ _ h => h)⟩
    · obtain rfl : k = N := by omega
      have hpn : partI TA TB = -1 := partI_none (fun i hi => HEQ.out i (by have := HN.out; omega))
      go_wp2_with (first | still_step | (with_reducible first | refine wpStill_nil ?_ | refine Flow.Both.mk ?_ ?_ | exact True.intro) | (with_reducible refine Flow.same_mk rfl rfl rfl ?_; go_simp; done) | (with_reducible exact Flow.same_un rfl rfl rfl) | (refine Flow.region_still mixed ?hB ?_; (case hB => decide +kernel)))
      go_ret
      exact ⟨by rw [hpn]; rfl, HF3.out.trans HF.out (fun _ _ h => h)⟩

theorem word_is (a : Option Addr) (c n : Nat) (l : List Int) (i : Nat) (w : World) (hn : n = l.length) (hv : Vw w 1 (fun _ => True) a n (ints l)) :
    Calls Try.prog 48 #[.slice a n c, .int .i64 (i : Nat)] w fun e w' => e = .returned (.int .i64 (l.getD i 0)) ∧ Fr (fun _ => False) w w' := by
  have HV := hid hv
  have HN := hid hn
  clear hv hn
  by_cases h : i < n
  · have hil : i < l.length := by have := HN.out; omega
    obtain ⟨r, o, rfl, _, hc⟩ := HV.out.cell (fun e => by have := congrArg List.length e; rw [ints_length] at this; simp only [List.length_nil] at this; omega)
    have c0 : w.cell? ⟨r, o + i, none⟩ = some (.int .i64 (l.getD i 0)) := hc i _ (ints_get l i hil)
    clear hc
    generalize l.getD i 0 = x at *
    have h2 : ((i : Nat) : Int) < (n : Nat) := by omega
    go_enter Try.func48, Try.ntmps48
    go_wp2_with (first | still_step | (with_reducible first | refine wpStill_nil ?_ | refine Flow.Both.mk ?_ ?_ | exact True.intro) | (with_reducible refine Flow.same_mk rfl rfl rfl ?_; go_simp; done) | (with_reducible exact Flow.same_un rfl rfl rfl) | (refine Flow.region_still mixed ?hB ?_; (case hB => decide +kernel)))
    go_ret
    exact ⟨rfl, by (with_reducible repeat' (first | exact Fr.refl _ _ | apply Fr.alloc | apply Fr.drew | apply Fr.drewN | refine Fr.setCell ?_ ?_ _))⟩
  · have h0 : l.getD i 0 = 0 := by rw [List.getD_eq_getElem?_getD, List.getElem?_eq_none (by have := HN.out; omega)]; rfl
    rw [h0]
    have h2 : ¬ ((i : Nat) : Int) < (n : Nat) := by omega
    go_enter Try.func48, Try.ntmps48
    go_wp2_with (first | still_step | (with_reducible first | refine wpStill_nil ?_ | refine Flow.Both.mk ?_ ?_ | exact True.intro) | (with_reducible refine Flow.same_mk rfl rfl rfl ?_; go_simp; done) | (with_reducible exact Flow.same_un rfl rfl rfl) | (refine Flow.region_still mixed ?hB ?_; (case hB => decide +kernel)))
    go_ret
    exact ⟨rfl, by (with_reducible repeat' (first | exact Fr.refl _ _ | apply Fr.alloc | apply Fr.drew | apply Fr.drewN | refine Fr.setCell ?_ ?_ _))⟩

def areasOk (al : List (Int × Int × Bool)) (words : Nat) : Prop := ∀ x ∈ al, 0 ≤ x.1 ∧ 0 ≤ x.2.1 ∧ x.1 + x.2.1 ≤ words
theorem areaC_get3 (l : List (Int × Int × Bool)) : ∀ (j : Nat) (a : Int × Int × Bool), l[j]? = some a → (areaC l)[j * 3 + 2]? = some (.bool a.2.2) := by
  induction l with
  | nil => intro j a h; simp at h
  | cons b l ih =>
    intro j a h
    unfold areaC at ih ⊢
    rw [List.flatMap_cons]
    cases j with
    | zero => simp at h; subst h; rfl
    | succ j =>
      have := ih j a (by simpa using h)
      rw [show (j + 1) * 3 + 2 = 3 + (j * 3 + 2) by omega, List.getElem?_append_right (by simp)]
      simpa using this

theorem alike_is (ao aa a1 a2 : Option Addr) (co ac qn c1 c2 words : Nat) (wd lk : Int) (al : List (Int × Int × Bool)) (ma mb : List Int) (w : World) (ha : Vw w 3 (fun _ => True) aa al.length (areaC al)) (hok : areasOk al words) (hal : al.length ≤ 9223372036854775807) (hwd : words ≤ 65536)
    (hma : Vw w 1 (fun _ => True) a1 ma.length (ints ma)) (hmb : Vw w 1 (fun _ => True) a2 mb.length (ints mb)) :
    Calls Try.prog 29 #[.agg #[.slice ao qn co, .slice aa al.length ac, .int .i64 wd, .int .i64 lk], .slice a1 ma.length c1, .slice a2 mb.length c2] w fun e w' => e = .returned (.bool (alikeP al ma mb)) ∧ Fr (fun _ => False) w w' := by
  have HA := hid ha
  have HOK := hid hok
  have HMA := hid hma
  have HMB := hid hmb
  obtain ⟨LA, hLA⟩ : ∃ x, x = al.length := ⟨_, rfl⟩
  obtain ⟨AL, hAL⟩ : ∃ x, x = ma.length := ⟨_, rfl⟩
  obtain ⟨BL, hBL⟩ : ∃ x, x = mb.length := ⟨_, rfl⟩
  rw [← hAL] at HMA
  rw [← hBL] at HMB
  rw [← hLA] at hal
  rw [← hLA, ← hAL, ← hBL]
  have HLA := hid hLA
  have HAL := hid hAL
  have HBL := hid hBL
  clear ha hok hma hmb hLA hAL hBL
  have HX := hid (Blk.new w #[.slice ao qn co, .slice aa LA ac, .int .i64 wd, .int .i64 lk] 25)
  go_enter Try.func29, Try.ntmps29
  go_wp2_with (first | still_step | (with_reducible first | refine wpStill_nil ?_ | refine Flow.Both.mk ?_ ?_ | exact True.intro) | (with_reducible refine Flow.same_mk rfl rfl rfl ?_; go_simp; done) | (with_reducible exact Flow.same_un rfl rfl rfl) | (refine Flow.region_still mixed ?hB ?_; (case hB => decide +kernel)))
  go_loopw [15] (fun i wr => ∃ k : Nat, k ≤ LA ∧ i = .int .i64 k ∧ alikeP (al.take k) ma mb = true ∧ Fr (fun _ => False) w wr) (fun i _ => LA - (intOf i).toNat)
  case atStart => exact ⟨0, Nat.zero_le _, rfl, rfl, by (with_reducible repeat' (first | exact Fr.refl _ _ | apply Fr.alloc | apply Fr.drew | apply Fr.drewN | refine Fr.setCell ?_ ?_ _))⟩
  case round =>
    obtain ⟨k, hk, rfl, hall, hf⟩ := hrel
    have HALL := hid hall
    have HF := hid hf
    clear hall hf HX
    by_cases hlt : k < LA
    · have hkl : k < al.length := by have := HLA.out; omega
      obtain ⟨r, o, rfl, _, hc⟩ := (HA.out.fr HF.out (fun _ _ h => h)).cell (fun e => by have := congrArg List.length e; rw [areaC_length] at this; simp only [List.length_nil] at this; omega)
      obtain ⟨g0, g1⟩ := areaC_get al k al[k] (by simp [hkl])
      have g2 := areaC_get3 al k al[k] (by simp [hkl])
      have q0 : wr.cell? ⟨r, o + k * 3, none⟩ = some (.int .i64 al[k].1) := hc (k * 3) _ g0
      have q1 : wr.cell? ⟨r, o + k * 3 + 1, none⟩ = some (.int .i64 al[k].2.1) := hc (k * 3 + 1) _ g1
      have q2 : wr.cell? ⟨r, o + k * 3 + 2, none⟩ = some (.bool al[k].2.2) := hc (k * 3 + 2) _ g2
      have hrl := World.block_lt_of_cell? _ _ q0
      dsimp only at hrl
      have hox := HOK.out al[k] (List.getElem_mem hkl)
      have HNO := hid (fun (j : Nat) (h1 : al[k].2.2 = false) (h2 : j < al[k].2.1.toNat) (h3 : ma.getD (al[k].1.toNat + j) 0 ≠ mb.getD (al[k].1.toNat + j) 0) => alike_no hkl h1 h2 h3)
      have HYE := hid (fun (h : al[k].2.2 = true ∨ alike1 ma mb al[k].1 al[k].2.1 = true) => alike_step hkl HALL.out h)
      have hlt2 : ((k : Nat) : Int) < (LA : Nat) := by omega
      clear hc g0 g1 g2
      generalize al[k] = x at *
      obtain ⟨bs, ln, sec⟩ := x
      dsimp only at q0 q1 q2 hox HNO HYE
      obtain ⟨bs, rfl⟩ : ∃ n : Nat, bs = n := ⟨bs.toNat, by omega⟩
      obtain ⟨ln, rfl⟩ : ∃ n : Nat, ln = n := ⟨ln.toNat, by omega⟩
      simp only [Int.toNat_natCast] at HNO
      have hbl : bs + ln ≤ 65536 := by omega
      go_wp2_with (first | still_step | (with_reducible first | refine wpStill_nil ?_ | refine Flow.Both.mk ?_ ?_ | exact True.intro) | (with_reducible refine Flow.same_mk rfl rfl rfl ?_; go_simp; done) | (with_reducible exact Flow.same_un rfl rfl rfl) | (refine Flow.region_still mixed ?hB ?_; (case hB => decide +kernel)))
      obtain ⟨w3, hw3⟩ : ∃ w3, w3 = wr.alloc (.cells #[.int .i64 (bs : Nat), .int .i64 (ln : Nat), .bool sec] 104) := ⟨_, rfl⟩
      obtain ⟨B3, hB3⟩ : ∃ x, x = wr.heap.size := ⟨_, rfl⟩
      have HB3 := hid (show Blk w3 B3 #[.int .i64 (bs : Nat), .int .i64 (ln : Nat), .bool sec] 104 by rw [hw3, hB3]; exact Blk.new _ _ _)
      have HF3 := hid (HF.out.trans (show Fr (fun _ => False) wr w3 by rw [hw3]; (with_reducible repeat' (first | exact Fr.refl _ _ | apply Fr.alloc | apply Fr.drew | apply Fr.drewN | refine Fr.setCell ?_ ?_ _))) (fun _ _ h => h))
      rw [← hw3, ← hB3]
      clear hw3 hB3 q0 q1 q2 hrl HF HALL
      clear wr
      go_loopw [21] (fun i wr => ∃ j : Nat, j ≤ ln ∧ i = .int .i64 j ∧ (sec = false → ∀ t, t < j → ma.getD (bs + t) 0 = mb.getD (bs + t) 0) ∧ Fr (fun _ => False) w3 wr) (fun i _ => ln - (intOf i).toNat)
      case atStart => exact ⟨0, Nat.zero_le _, rfl, fun _ t ht => absurd ht (Nat.not_lt_zero _), Fr.refl _ _⟩
      case round =>
        obtain ⟨j, hj, rfl, heq, hf⟩ := hrel
        have HEQ := hid heq
        have HF := hid hf
        have hb3 := HB3.out.fr hf (fun h => h)
        have c0_x := Blk.cell hb3 0
        have f0_x := Blk.free hb3 0
        have c1_x := Blk.cell hb3 1
        have f1_x := Blk.free hb3 1
        have c2_x := Blk.cell hb3 2
        have f2_x := Blk.free hb3 2
        have l_x := Blk.lt hb3
        clear heq hf hb3
        by_cases hjl : j < ln
        · have hjl2 : ((j : Nat) : Int) < (ln : Nat) := by omega
          cases sec with
          | true =>
            go_wp2_with (first | still_step | (with_reducible first | refine wpStill_nil ?_ | refine Flow.Both.mk ?_ ?_ | exact True.intro) | (with_reducible refine Flow.same_mk rfl rfl rfl ?_; go_simp; done) | (with_reducible exact Flow.same_un rfl rfl rfl) | (refine Flow.region_still mixed ?hB ?_; (case hB => decide +kernel)))
            go_roundw
            case rel => exact ⟨j + 1, by omega, by go_num, fun h => (by cases h), HF.out.trans (show Fr (fun _ => False) wr _ by (with_reducible repeat' (first | exact Fr.refl _ _ | apply Fr.alloc | apply Fr.drew | apply Fr.drewN | refine Fr.setCell ?_ ?_ _))) (fun _ _ h => h)⟩
            case measure => simp [intOf]; omega
          | false =>
            have HEBJ := hid (show (bs : Int) + (j : Int) = ((bs + j : Nat) : Int) by omega)
            obtain ⟨x, hx⟩ : ∃ x, x = ma.getD (bs + j) 0 := ⟨_, rfl⟩
            obtain ⟨y, hy⟩ : ∃ y, y = mb.getD (bs + j) 0 := ⟨_, rfl⟩
            have HNX := hid (fun (h : x = y) (t : Nat) (ht : t < j + 1) => show ma.getD (bs + t) 0 = mb.getD (bs + t) 0 from by
              by_cases htj : t < j
              · exact HEQ.out rfl t htj
              · obtain rfl : t = j := by omega
                rw [← hx, ← hy]; exact h)
            have HND := hid (fun (h : x ≠ y) => HNO.out j rfl hjl (by rw [← hx, ← hy]; exact h))
            have HXX := hid hx
            have HYY := hid hy
            clear hx hy
            go_wp2_with (first | still_step | (with_reducible first | refine wpStill_nil ?_ | refine Flow.Both.mk ?_ ?_ | exact True.intro) | (with_reducible refine Flow.same_mk rfl rfl rfl ?_; go_simp; done) | (with_reducible exact Flow.same_un rfl rfl rfl) | (refine Flow.region_still mixed ?hB ?_; (case hB => decide +kernel)))
            go_at_call 48
            rw [HEBJ.out]
            refine Calls.named fun wc hwc => ?_
            have hfc : Fr (fun _ => False) wr wc := by rw [hwc]; (with_reducible repeat' (first | exact Fr.refl _ _ | apply Fr.alloc | apply Fr.drew | apply Fr.drewN | refine Fr.setCell ?_ ?_ _))
            have HF4 := hid (HF3.out.trans (HF.out.trans hfc (fun _ _ h => h)) (fun _ _ h => h))
            refine (word_is a1 c1 AL ma (bs + j) wc HAL.out (HMA.out.fr HF4.out (fun _ _ h => h))).mono ?_
            rintro e w4 ⟨rfl, hf4⟩
            rw [← HXX.out]
            have HF5 := hid (HF4.out.trans hf4 (fun _ _ h => h))
            have HFJ := hid ((HF.out.trans hfc (fun _ _ h => h)).trans hf4 (fun _ _ h => h))
            clear hwc hfc hf4 HF4 c0_x f0_x c1_x f1_x c2_x f2_x l_x
            have hb3 := HB3.out.fr HFJ.out (fun h => h)
            have c0_x := Blk.cell hb3 0
            have f0_x := Blk.free hb3 0
            have c1_x := Blk.cell hb3 1
            have f1_x := Blk.free hb3 1
            have c2_x := Blk.cell hb3 2
            have f2_x := Blk.free hb3 2
            have l_x := Blk.lt hb3
            clear hb3
            go_wp2_with (first | still_step | (with_reducible first | refine wpStill_nil ?_ | refine Flow.Both.mk ?_ ?_ | exact True.intro) | (with_reducible refine Flow.same_mk rfl rfl rfl ?_; go_simp; done) | (with_reducible exact Flow.same_un rfl rfl rfl) | (refine Flow.region_still mixed ?hB ?_; (case hB => decide +kernel)))
            go_at_call 48
            refine Calls.named fun wc hwc => ?_
            have hfc : Fr (fun _ => False) w4 wc := by rw [hwc]; (with_reducible repeat' (first | exact Fr.refl _ _ | apply Fr.alloc | apply Fr.drew | apply Fr.drewN | refine Fr.setCell ?_ ?_ _))
            refine (word_is a2 c2 BL mb (bs + j) wc HBL.out (HMB.out.fr (HF5.out.trans hfc (fun _ _ h => h)) (fun _ _ h => h))).mono ?_
            rintro e w5 ⟨rfl, hf5⟩
            rw [← HYY.out]
            have HF6 := hid ((HF5.out.trans hfc (fun _ _ h => h)).trans hf5 (fun _ _ h => h))
            have HFK := hid ((HFJ.out.trans hfc (fun _ _ h => h)).trans hf5 (fun _ _ h => h))
            clear hwc hfc hf5 HF5 HFJ c0_x f0_x c1_x f1_x c2_x f2_x l_x
            have hb3 := HB3.out.fr HFK.out (fun h => h)
            have c0_x := Blk.cell hb3 0
            have f0_x := Blk.free hb3 0
            have c1_x := Blk.cell hb3 1
            have f1_x := Blk.free hb3 1
            have c2_x := Blk.cell hb3 2
            have f2_x := Blk.free hb3 2
            have l_x := Blk.lt hb3
            clear hb3
            by_cases hxy : x = y
            · have HNY := hid (HNX.out hxy)
              have hxy2 : (x != y) = false := by simpa using hxy
              clear hxy
              go_wp2_with (first | still_step | (with_reducible first | refine wpStill_nil ?_ | refine Flow.Both.mk ?_ ?_ | exact True.intro) | (with_reducible refine Flow.same_mk rfl rfl rfl ?_; go_simp; done) | (with_reducible exact Flow.same_un rfl rfl rfl) | (refine Flow.region_still mixed ?hB ?_; (case hB => decide +kernel)))
              go_roundw
              case rel => exact ⟨j + 1, by omega, by go_num, fun _ => HNY.out, HFK.out.trans (show Fr (fun _ => False) w5 _ by (with_reducible repeat' (first | exact Fr.refl _ _ | apply Fr.alloc | apply Fr.drew | apply Fr.drewN | refine Fr.setCell ?_ ?_ _))) (fun _ _ h => h)⟩
              case measure => simp [intOf]; omega
            · have hxy2 : (x != y) = true := by simpa using hxy
              have hno := HND.out hxy
              go_wp2_with (first | still_step | (with_reducible first | refine wpStill_nil ?_ | refine Flow.Both.mk ?_ ?_ | exact True.intro) | (with_reducible refine Flow.same_mk rfl rfl rfl ?_; go_simp; done) | (with_reducible exact Flow.same_un rfl rfl rfl) | (refine Flow.region_still mixed ?hB ?_; (case hB => decide +kernel)))
              go_ret
              exact ⟨by rw [hno]; rfl, HF6.out.trans (show Fr (fun _ => False) w5 _ by (with_reducible repeat' (first | exact Fr.refl _ _ | apply Fr.alloc | apply Fr.drew | apply Fr.drewN | refine Fr.setCell ?_ ?_ _))) (fun _ _ h => h)⟩
        · obtain rfl : j = ln := by omega
          have hal1 : sec = true ∨ alike1 ma mb (bs : Nat) (j : Nat) = true := by
            cases sec with
            | true => exact .inl rfl
            | false =>
              right
              unfold alike1
              rw [List.all_eq_true]
              intro t ht
              have := HEQ.out rfl t (by have := List.mem_range.1 ht; omega)
              rw [Int.toNat_natCast, this]
              simp
          have HY2 := hid (HYE.out hal1)
          clear hal1
          go_wp2_with (first | still_step | (with_reducible first | refine wpStill_nil ?_ | refine Flow.Both.mk ?_ ?_ | exact True.intro) | (with_reducible refine Flow.same_mk rfl rfl rfl ?_; go_simp; done) | (with_reducible exact Flow.same_un rfl rfl rfl) | (refine Flow.region_still mixed ?hB ?_; (case hB => decide +kernel)))
          go_roundw
          case rel => exact ⟨k + 1, by omega, by go_num, HY2.out, (HF3.out.trans HF.out (fun _ _ h => h)).trans (show Fr (fun _ => False) wr _ by (with_reducible repeat' (first | exact Fr.refl _ _ | apply Fr.alloc | apply Fr.drew | apply Fr.drewN | refine Fr.setCell ?_ ?_ _))) (fun _ _ h => h)⟩
          case measure => simp [intOf]; omega
    · obtain rfl : k = LA := by omega
      have hall := HALL.out
      rw [List.take_of_length_le (by rw [← HLA.out]; exact Nat.le_refl _)] at hall
      go_wp2_with (first | still_step | (with_reducible first | refine wpStill_nil ?_ | refine Flow.Both.mk ?_ ?_ | exact True.intro) | (with_reducible refine Flow.same_mk rfl rfl rfl ?_; go_simp; done) | (with_reducible exact Flow.same_un rfl rfl rfl) | (refine Flow.region_still mixed ?hB ?_; (case hB => decide +kernel)))
      go_ret
      exact ⟨by rw [hall]; rfl, HF.out⟩
end Go.Proofs.Ytbfeopakmjcapaa.Sp

/-
  script and Search of package twin.
-/
namespace Go.Proofs.Ytbfeopakmjcapaa.Sp
open Go.RowKit Go.Proofs.Ytbfeopakmjcapaa.Seq Go.Proofs.Ytbfeopakmjcapaa.Tso
attribute [local irreducible] wpStill wpList Calls CallsIn

/-- One cell of a block is set, as an arm of a walk takes it. -/
theorem wpList_setA {P : Program} {ops : Array Oper} {rest : List Oper} {dst : Option Tmp} {ty tt : TypeId} {x y : Operand} {ps : String} {af : Array Edge} {a : Act} {w : World} {Q : Exit → Act → World → Prop} {b o : Nat} {C : Array Value} {T : TypeId} {v : Value}
    (zcx : a.eval x = .pointer (some ⟨b, o, none⟩)) (zcy : a.eval y = v) (zcv : v.cells = #[v]) (zc1 : v.oneCell' = true) (zcn : o < C.size) (zci : (P.info? ty).map (·.size) = some 1) (zcb : Blk w b C T)
    (zcK : ∀ w', Blk w' b (C.setIfInBounds o v) T → Fr (fun k => k = b) w w' → w'.heap.size = w.heap.size → wpList P ops Q rest (a.put dst undef) w') : wpList P ops Q (⟨dst, .store ty x y, tt, ps, af, none⟩ :: rest) a w :=
  wpList_setF zcb rfl rfl zcx zcy zcv zc1 zcn zci zcK
theorem infoDOf : (Try.prog.info? 41).map (fun i => (i.zero, i.size, i.bytes)) = some (some (.agg #[.int .i64 0, .int .i64 0]), 2, 16) := by kernel_rfl
theorem dosC_set1 (l : List (Int × Int)) (x : Int) : ∀ k, k < l.length → (dosC l).set (k * 2 + 1) (.int .i64 x) = dosC (l.set k ((l.getD k (0, 0)).1, x)) := by
  induction l with
  | nil => intro k h; simp at h
  | cons a l ih =>
    intro k h
    cases k with
    | zero => simp [dosC]
    | succ k =>
      have := ih k (by simpa using h)
      rw [show (k + 1) * 2 + 1 = (k * 2 + 1) + 1 + 1 by omega]
      simpa [dosC] using this
theorem dosC_set0 (l : List (Int × Int)) (x : Int) : ∀ k, k < l.length → (dosC l).set (k * 2) (.int .i64 x) = dosC (l.set k (x, (l.getD k (0, 0)).2)) := by
  induction l with
  | nil => intro k h; simp at h
  | cons a l ih =>
    intro k h
    cases k with
    | zero => simp [dosC]
    | succ k =>
      have := ih k (by simpa using h)
      rw [show (k + 1) * 2 = (k * 2) + 1 + 1 by omega]
      simpa [dosC] using this
theorem set_arr1 {l : List (Int × Int)} {k : Nat} (hk : k < l.length) (x : Int) : (dosC l).toArray.setIfInBounds (k * 2 + 1) (.int .i64 x) = (dosC (l.set k ((l.getD k (0, 0)).1, x))).toArray := by
  rw [← dosC_set1 l x k hk]
  simp
theorem set_arr0 {l : List (Int × Int)} {k : Nat} (hk : k < l.length) (x : Int) : (dosC l).toArray.setIfInBounds (k * 2) (.int .i64 x) = (dosC (l.set k (x, (l.getD k (0, 0)).2))).toArray := by
  rw [← dosC_set0 l x k hk]
  simp
theorem blk_set1 {w : World} {B : Nat} {T : TypeId} {l : List (Int × Int)} (h : Blk w B (dosC l).toArray T) {k : Nat} (hk : k < l.length) (x : Int) : Blk (w.setCell ⟨B, k * 2 + 1, none⟩ (.int .i64 x)) B (dosC (l.set k ((l.getD k (0, 0)).1, x))).toArray T := by
  rw [← dosC_set1 l x k hk]
  simpa using h.set (k * 2 + 1) (.int .i64 x)
theorem blk_set0 {w : World} {B : Nat} {T : TypeId} {l : List (Int × Int)} (h : Blk w B (dosC l).toArray T) {k : Nat} (hk : k < l.length) (x : Int) : Blk (w.setCell ⟨B, k * 2, none⟩ (.int .i64 x)) B (dosC (l.set k (x, (l.getD k (0, 0)).2))).toArray T := by
  rw [← dosC_set0 l x k hk]
  simpa using h.set (k * 2) (.int .i64 x)
theorem szDOS : (Try.prog.info? 27).map (·.size) = some 1 := by kernel_rfl
def scr0 (thread : Int) (j : Nat) : List (Int × Int) := (List.range 24).map fun i => (0, if i < j then thread else 0)
theorem scr0_len (thread : Int) (j : Nat) : (scr0 thread j).length = 24 := by simp [scr0]
theorem scr0_succ (thread : Int) (j : Nat) (h : j < 24) : (scr0 thread j).set j (((scr0 thread j).getD j (0, 0)).1, thread) = scr0 thread (j + 1) := by
  apply List.ext_getElem?
  intro i
  rw [List.getElem?_set]
  by_cases hij : j = i
  · subst hij
    rw [if_pos rfl]
    simp [scr0, h, List.getD_eq_getElem?_getD]
  · rw [if_neg hij]
    unfold scr0
    simp only [List.getElem?_map]
    by_cases hi : i < 24
    · simp only [List.getElem?_range hi, Option.map_some]
      by_cases h1 : i < j
      · rw [if_pos h1, if_pos (by omega)]
      · rw [if_neg h1, if_neg (by omega)]
    · rw [List.getElem?_eq_none (by simp; omega)]
      rfl
theorem rep24 (thread : Int) {i : Nat} (hi : i < 24) : (List.replicate 24 ((0 : Int), thread))[i]? = some (0, thread) := by
  rw [List.getElem?_replicate, if_pos hi]
theorem scr0_all (thread : Int) : scr0 thread 24 = List.replicate 24 (0, thread) := by
  apply List.ext_getElem?
  intro i
  unfold scr0
  by_cases hi : i < 24
  · rw [rep24 thread hi]
    simp [hi]
  · rw [List.getElem?_eq_none (by simp; omega), List.getElem?_eq_none (by simp; omega)]
theorem scr_end (thread : Int) (k : Nat) (q : List (Int × Int)) (hq : q = if k / 24 < 24 then (List.replicate 24 (0, thread)).set (k / 24) (3, ((List.replicate 24 ((0 : Int), thread)).getD (k / 24) (0, 0)).2) else List.replicate 24 (0, thread)) :
    q.set (k % 24) (2, (q.getD (k % 24) (0, 0)).2) = scriptD thread k := by
  have hm : k % 24 < 24 := Nat.mod_lt _ (by omega)
  have hlen : q.length = 24 := by rw [hq]; split <;> simp
  have hget : ∀ i, i < 24 → q[i]? = some (if i = k / 24 then 3 else 0, thread) := by
    intro i hi
    rw [hq]
    by_cases h : k / 24 < 24
    · rw [if_pos h, List.getElem?_set]
      by_cases hik : k / 24 = i
      · subst hik
        rw [if_pos rfl, if_pos rfl, if_pos (by rw [List.length_replicate]; exact hi), List.getD_eq_getElem?_getD, rep24 thread hi]
        rfl
      · rw [if_neg hik, if_neg (fun e => hik e.symm)]; exact rep24 thread hi
    · rw [if_neg h, if_neg (by omega)]; exact rep24 thread hi
  apply List.ext_getElem?
  intro i
  unfold scriptD
  by_cases hi : i < 24
  · rw [List.getElem?_set]
    by_cases hik : k % 24 = i
    · subst hik
      rw [if_pos rfl, if_pos (by omega)]
      simp [List.getD_eq_getElem?_getD, hget _ hi, hi]
    · rw [if_neg hik, hget i hi]
      simp only [List.getElem?_map, List.getElem?_range hi, Option.map_some]
      rw [if_neg (show ¬ i = k % 24 from fun e => hik e.symm)]
  · rw [List.getElem?_eq_none (by simp; omega), List.getElem?_eq_none (by simp; omega)]

theorem made24 : madeCells (Value.agg #[.int .i64 0, .int .i64 0]).cells (24 * 2) = (dosC (List.replicate 24 (0, 0))).toArray := by kernel_rfl

theorem script_is (thread : Int) (k : Nat) (hk : k < 1000) (w : World) : Calls Try.prog 67 #[.int .i64 thread, .int .i64 (k : Nat)] w fun e w' =>
    ∃ B, e = .returned (.slice (some ⟨B, 0, none⟩) 24 24) ∧ Blk w' B (dosC (scriptD thread k)).toArray 41 ∧ w.heap.size ≤ B ∧ Fr (fun _ => False) w w' := by
  go_enter Try.func67, Try.ntmps67
  go_wp2_with (first | ((with_reducible apply wpList_does); (case zlw => rfl); (case zlr => exact run_makeO rfl Try.underlying27 infoDOf 24 rfl rfl (by omega) (by omega)); simp only [World.alloc_drew, World.size_alloc, World.size_drew]) | still_step | (with_reducible first | refine wpStill_nil ?_ | refine Flow.Both.mk ?_ ?_ | exact True.intro) | (with_reducible refine Flow.same_mk rfl rfl rfl ?_; go_simp; done) | (with_reducible exact Flow.same_un rfl rfl rfl) | (refine Flow.region_still mixed ?hB ?_; (case hB => decide +kernel)))
  rw [show madeCells #[Value.int .i64 0, Value.int .i64 0] 48 = (dosC (scr0 thread 0)).toArray from by rw [show scr0 thread 0 = List.replicate 24 (0, 0) from rfl]; exact made24]
  obtain ⟨w1, hw1⟩ : ∃ x, x = w.alloc (.cells (dosC (scr0 thread 0)).toArray 41) := ⟨_, rfl⟩
  obtain ⟨B, hB⟩ : ∃ x, x = w.heap.size := ⟨_, rfl⟩
  have HB0 := hid (show Blk w1 B (dosC (scr0 thread 0)).toArray 41 by rw [hw1, hB]; exact Blk.new _ _ _)
  have HF0 := hid (show Fr (fun _ => False) w w1 by rw [hw1]; (with_reducible repeat' (first | exact Fr.refl _ _ | apply Fr.alloc | apply Fr.drew | apply Fr.drewN | refine Fr.setCell ?_ ?_ _)))
  have HBW := hid (show w.heap.size ≤ B by omega)
  rw [← hw1, ← hB]
  clear hw1 hB
  go_loopw [11] (fun i wr => ∃ j : Nat, j ≤ 24 ∧ i = .int .i64 j ∧ Blk wr B (dosC (scr0 thread j)).toArray 41 ∧ Fr (fun _ => False) w wr) (fun i _ => 24 - (intOf i).toNat)
  case atStart => exact ⟨0, Nat.zero_le _, rfl, HB0.out, HF0.out⟩
  case round =>
    obtain ⟨j, hj, rfl, hb, hf⟩ := hrel
    have HB := hid hb
    have HF := hid hf
    clear HB0 HF0
    by_cases hlt : j < 24
    · have hsz : j < (scr0 thread j).length := by rw [scr0_len]; exact hlt
      have hfr := hb.free (0 + j * 2 + 1)
      have hce : wr.cell? ⟨B, 0 + j * 2 + 1, none⟩ = some (.int .i64 ((scr0 thread j)[j]).2) := by
        rw [Nat.zero_add, hb.cell]
        simpa using (dosC_get (scr0 thread j) j hsz).2
      simp only [Nat.zero_add] at hfr hce
      have hlb := hb.lt
      have HST := hid (show ∀ W, Blk W B (dosC (scr0 thread j)).toArray 41 → Blk (W.setCell ⟨B, j * 2 + 1, none⟩ (.int .i64 thread)) B (dosC (scr0 thread (j + 1))).toArray 41 from fun W h => by
        have h2 := blk_set1 h hsz thread
        rwa [scr0_succ thread j hlt] at h2)
      clear hb hf
      generalize ((scr0 thread j)[j]).2 = old at *
      go_wp2_with (first | still_step | (with_reducible first | refine wpStill_nil ?_ | refine Flow.Both.mk ?_ ?_ | exact True.intro) | (with_reducible refine Flow.same_mk rfl rfl rfl ?_; go_simp; done) | (with_reducible exact Flow.same_un rfl rfl rfl) | (refine Flow.region_still mixed ?hB ?_; (case hB => decide +kernel)))
      go_roundw
      case rel => exact ⟨j + 1, by omega, by go_num, HST.out _ HB.out, HF.out.trans (Fr.setCell (S := fun z => z = B) (Fr.refl _ _) (fun _ => rfl) _) (fun z hz e => by have := HBW.out; omega)⟩
      case measure => simp [intOf]; omega
    · obtain rfl : j = 24 := by omega
      rw [scr0_all] at hb
      clear HB
      have HB := hid hb
      have hm : k % 24 < 24 := Nat.mod_lt _ (by omega)
      obtain ⟨q0, hq0⟩ : ∃ x, x = List.replicate 24 ((0 : Int), thread) := ⟨_, rfl⟩
      rw [← hq0] at HB
      have HQ0 := hid hq0
      have HL0 := hid (show q0.length = 24 by rw [hq0, List.length_replicate])
      clear hb hf hq0 hlt hj
      by_cases hq : k / 24 < 24
      · go_wp2_with (first | ((with_reducible apply wpList_setA (b := B) (o := k / 24 * 2) (C := (dosC q0).toArray) (v := .int .i64 3) (T := 41)); (case zcx => rfl); (case zcy => rfl); (case zcv => rfl); (case zc1 => rfl); (case zcn => rw [List.size_toArray, dosC_length, HL0.out]; omega); (case zci => exact szINT); (case zcb => exact HB.out); intro wS hbS hfS hsS; rw [set_arr0 (by rw [HL0.out]; exact hq)] at hbS; have HB1 := hid hbS; have HF1 := hid hfS; clear hbS hfS hsS) | ((with_reducible apply wpList_setA (b := B) (o := k % 24 * 2) (C := (dosC (q0.set (k / 24) (3, (q0.getD (k / 24) (0, 0)).2))).toArray) (v := .int .i64 2) (T := 41)); (case zcx => rfl); (case zcy => rfl); (case zcv => rfl); (case zc1 => rfl); (case zcn => rw [List.size_toArray, dosC_length, List.length_set, HL0.out]; omega); (case zci => exact szINT); (case zcb => exact HB1.out); intro wT hbT hfT hsT; rw [set_arr0 (by rw [List.length_set, HL0.out]; exact hm)] at hbT; have HB2 := hid hbT; have HF2 := hid hfT; clear hbT hfT hsT) | still_step | (with_reducible first | refine wpStill_nil ?_ | refine Flow.Both.mk ?_ ?_ | exact True.intro) | (with_reducible refine Flow.same_mk rfl rfl rfl ?_; go_simp; done) | (with_reducible exact Flow.same_un rfl rfl rfl) | (refine Flow.region_still mixed ?hB ?_; (case hB => decide +kernel)))
        go_ret
        refine ⟨B, rfl, ?_, HBW.out, ?_⟩
        · have := HB2.out
          rw [scr_end thread k _ (by rw [if_pos hq, HQ0.out])] at this
          exact this
        · exact (HF.out.trans HF1.out (fun z hz e => by have := HBW.out; omega)).trans HF2.out (fun z hz e => by have := HBW.out; omega)
      · go_wp2_with (first | ((with_reducible apply wpList_setA (b := B) (o := k % 24 * 2) (C := (dosC q0).toArray) (v := .int .i64 2) (T := 41)); (case zcx => rfl); (case zcy => rfl); (case zcv => rfl); (case zc1 => rfl); (case zcn => rw [List.size_toArray, dosC_length, HL0.out]; omega); (case zci => exact szINT); (case zcb => exact HB.out); intro wT hbT hfT hsT; rw [set_arr0 (by rw [HL0.out]; exact hm)] at hbT; have HB2 := hid hbT; have HF2 := hid hfT; clear hbT hfT hsT) | still_step | (with_reducible first | refine wpStill_nil ?_ | refine Flow.Both.mk ?_ ?_ | exact True.intro) | (with_reducible refine Flow.same_mk rfl rfl rfl ?_; go_simp; done) | (with_reducible exact Flow.same_un rfl rfl rfl) | (refine Flow.region_still mixed ?hB ?_; (case hB => decide +kernel)))
        go_ret
        refine ⟨B, rfl, ?_, HBW.out, ?_⟩
        · have := HB2.out
          rw [scr_end thread k _ (by rw [if_neg hq, HQ0.out])] at this
          exact this
        · exact HF.out.trans HF2.out (fun z hz e => by have := HBW.out; omega)

theorem run_minT {P : Program} (ts : Array TypeId) (t : TypeId) (a : Nat) (h : a ≤ 1000) (w : World) :
    (Builtin.min_ ts t #[.int .i64 (a : Int), .int .i64 1000]).run P w = .ok (.int .i64 (a : Int)) w := by
  simp only [Builtin.min_]
  simp [List.foldlM_cons, List.foldlM_nil, Builtin.min2]
  omega
theorem run_max0 {P : Program} (ts : Array TypeId) (t : TypeId) (a : Nat) (w : World) :
    (Builtin.max_ ts t #[.int .i64 (a : Int), .int .i64 0]).run P w = .ok (.int .i64 (a : Int)) w := by
  simp only [Builtin.max_]
  simp [List.foldlM_cons, List.foldlM_nil, Builtin.max2]
  omega
theorem dosC_take (l : List (Int × Int)) : ∀ m, (dosC l).take (m * 2) = dosC (l.take m) := by
  induction l with
  | nil => intro m; simp [dosC]
  | cons a l ih =>
    intro m
    cases m with
    | zero => simp [dosC]
    | succ m =>
      have := ih m
      rw [show (m + 1) * 2 = m * 2 + 1 + 1 by omega]
      simpa [dosC] using this
theorem vw_take {w : World} {sz : Nat} {R : Nat → Prop} {a : Option Addr} {n m : Nat} {cs : List Value} (h : Vw w sz R a n cs) (hm : m ≤ n) : Vw w sz R a m (cs.take (m * sz)) := by
  refine ⟨?_, ?_⟩
  · rw [List.length_take, h.1]
    exact Nat.min_eq_left (Nat.mul_le_mul_right _ hm)
  · rcases h.2 with h2 | ⟨r, off, e, hr, hc⟩
    · exact .inl (by rw [h2, List.take_nil])
    · exact .inr ⟨r, off, e, hr, fun j u hj => hc j u (by
        rw [List.getElem?_take] at hj
        split at hj
        · exact hj
        · cases hj)⟩
theorem searchP_len (codes : List (List Ins)) (words locks : Nat) (room window : Int) (A B : List Int) (thread : Int) : ∀ n k, (searchP codes words locks room window A B thread n k).length ≤ 24
  | 0, _ => Nat.zero_le _
  | n + 1, k => by
    unfold searchP
    dsimp only
    split
    · rw [List.length_take, scriptD_len]; omega
    · exact searchP_len codes words locks room window A B thread n (k + 1)

theorem search_is (Rc Rm : Nat → Prop) (ao aa a1 a2 al : Option Addr) (co ac an c1 c2 cl nl : Nat) (qs : List ((Option Addr × Nat) × List Ins)) (words locks : Nat) (room window : Int) (ma mb : List Int) (thread : Int) (T : Nat) (hT2 : T ≤ 1000) (w : World) (hc : Codes w Rc ao qs) (hma : Vw w 1 Rm a1 ma.length (ints ma)) (hna : a1 = none → ma.length = 0)
    (hmb : Vw w 1 Rm a2 mb.length (ints mb)) (hnb : a2 = none → mb.length = 0)
    (hq : qs.length ≤ 1000) (hla : ma.length ≤ 100000) (hlb : mb.length ≤ 100000) (hi : ∀ q ∈ qs, q.2.length ≤ 100000) (hw : words ≤ 65536) (hlk : locks ≤ 8) (hok : ∀ q ∈ qs, ∀ i ∈ q.2, insOk q.2.length locks i) :
    Calls Try.prog 46 #[.agg #[.slice ao qs.length co, .slice aa an ac, .int .i64 (words : Int), .int .i64 (locks : Int), .slice a1 ma.length c1, .slice a2 mb.length c2, .int .i64 room, .int .i64 window, .slice al nl cl], .int .i64 thread, .int .i64 (T : Nat)] w fun e w' =>
      ∃ a c, e = .returned (.slice a (searchP (qs.map (·.2)) words locks room window ma mb thread T 0).length c) ∧ Vw w' 2 (fun z => w.heap.size ≤ z) a (searchP (qs.map (·.2)) words locks room window ma mb thread T 0).length (dosC (searchP (qs.map (·.2)) words locks room window ma mb thread T 0)) ∧ Fr (fun _ => False) w w' := by
  have hpt := fun W (l : List (Int × Int)) (x : Option Addr) (xc : Nat) (h1 : Codes W Rc ao qs) (h2 : Vw W 1 Rm a1 ma.length (ints ma)) (h3 : Vw W 1 Rm a2 mb.length (ints mb)) (h4 : l.length ≤ 1000) (h5 : Vw W 2 (fun _ => True) x l.length (dosC l)) =>
    part_is Rc Rm ao aa a1 a2 x co ac an c1 c2 xc qs words locks room window ma mb l W h1 h2 hna h3 hnb hq hla hlb hi hw hlk hok h4 h5
  have hle := fun (l : List (Int × Int)) => traceP_le (qs.map (·.2)) words locks room window l ma
  obtain ⟨cs, hcs⟩ : ∃ x, x = qs.map (·.2) := ⟨_, rfl⟩
  rw [← hcs] at hpt hle ⊢
  have HC := hid hc
  have HMA := hid hma
  have HMB := hid hmb
  obtain ⟨QL, hQL⟩ : ∃ x, x = qs.length := ⟨_, rfl⟩
  obtain ⟨AL, hAL⟩ : ∃ x, x = ma.length := ⟨_, rfl⟩
  obtain ⟨BL, hBL⟩ : ∃ x, x = mb.length := ⟨_, rfl⟩
  rw [← hQL, ← hAL, ← hBL] at hpt
  rw [← hAL] at HMA
  rw [← hBL] at HMB
  rw [← hQL, ← hAL, ← hBL]
  have HPT := hid hpt
  have HLE := hid hle
  have HMAX : ∀ (ts : Array TypeId) (t : TypeId) (w : World), (Builtin.max_ ts t #[.int .i64 (T : Nat), .int .i64 0]).run Try.prog w = .ok (.int .i64 (T : Nat)) w := fun ts t w => run_max0 ts t T w
  have HMIN : ∀ (ts : Array TypeId) (t : TypeId) (w : World), (Builtin.min_ ts t #[.int .i64 (T : Nat), .int .i64 1000]).run Try.prog w = .ok (.int .i64 (T : Nat)) w := fun ts t w => run_minT ts t T hT2 w
  clear hpt hle hc hma hmb hQL hAL hBL hq hla hlb hi hok hna hnb hcs
  have HX := hid (Blk.new w #[.slice ao QL co, .slice aa an ac, .int .i64 (words : Int), .int .i64 (locks : Int), .slice a1 AL c1, .slice a2 BL c2, .int .i64 room, .int .i64 window, .slice al nl cl] 69)
  go_enter Try.func46, Try.ntmps46
  go_wp2_with (first | still_step | (with_reducible first | refine wpStill_nil ?_ | refine Flow.Both.mk ?_ ?_ | exact True.intro) | (with_reducible refine Flow.same_mk rfl rfl rfl ?_; go_simp; done) | (with_reducible exact Flow.same_un rfl rfl rfl) | (refine Flow.region_still mixed ?hB ?_; (case hB => decide +kernel)))
  obtain ⟨PB, hPB⟩ : ∃ x, x = w.heap.size := ⟨_, rfl⟩
  obtain ⟨w1, hw1⟩ : ∃ x, x = w.alloc (.cells #[.slice ao QL co, .slice aa an ac, .int .i64 (words : Int), .int .i64 (locks : Int), .slice a1 AL c1, .slice a2 BL c2, .int .i64 room, .int .i64 window, .slice al nl cl] 69) := ⟨_, rfl⟩
  have HX1 := hid (show Blk w1 PB #[.slice ao QL co, .slice aa an ac, .int .i64 (words : Int), .int .i64 (locks : Int), .slice a1 AL c1, .slice a2 BL c2, .int .i64 room, .int .i64 window, .slice al nl cl] 69 by rw [hw1, hPB]; exact HX.out)
  have HF1 := hid (show Fr (fun _ => False) w w1 by rw [hw1]; (with_reducible repeat' (first | exact Fr.refl _ _ | apply Fr.alloc | apply Fr.drew | apply Fr.drewN | refine Fr.setCell ?_ ?_ _)))
  have HPW := hid (show w.heap.size ≤ PB by omega)
  rw [← hw1, ← hPB]
  clear hw1 hPB HX
  go_loopw [12] (fun i wr => ∃ (k : Nat) (x : Option Addr) (n c : Nat), k ≤ T ∧ i = .int .i64 k ∧ searchP cs words locks room window ma mb thread T 0 = searchP cs words locks room window ma mb thread (T - k) k ∧
    Blk wr PB #[.slice ao QL co, .slice aa an ac, .int .i64 (words : Int), .int .i64 (locks : Int), .slice a1 AL c1, .slice a2 BL c2, .int .i64 room, .int .i64 window, .slice x n c] 69 ∧ Fr (fun _ => False) w wr) (fun i _ => T - (intOf i).toNat)
  case atStart => exact ⟨0, al, nl, cl, Nat.zero_le _, rfl, rfl, HX1.out, HF1.out⟩
  case round =>
    obtain ⟨k, x, n, c, hk, rfl, hse, hb, hf⟩ := hrel
    have HSE := hid hse
    have HB := hid hb
    have HF := hid hf
    clear hse hb hf HX1 HF1
    by_cases hlt : k < T
    · have hlt2 : ((k : Nat) : Int) < (T : Nat) := by omega
      have HSS := hid (show searchP cs words locks room window ma mb thread (T - k) k = if 0 ≤ partI (traceP cs words locks room window (scriptD thread k) ma) (traceP cs words locks room window (scriptD thread k) mb) then (scriptD thread k).take ((partI (traceP cs words locks room window (scriptD thread k) ma) (traceP cs words locks room window (scriptD thread k) mb)).toNat + 1) else searchP cs words locks room window ma mb thread (T - (k + 1)) (k + 1) by
        rw [show T - k = (T - (k + 1)) + 1 by omega]
        rfl)
      go_wp2_with (first | still_step | (with_reducible first | refine wpStill_nil ?_ | refine Flow.Both.mk ?_ ?_ | exact True.intro) | (with_reducible refine Flow.same_mk rfl rfl rfl ?_; go_simp; done) | (with_reducible exact Flow.same_un rfl rfl rfl) | (refine Flow.region_still mixed ?hB ?_; (case hB => decide +kernel)))
      go_at_call 67
      refine Calls.named fun wc hwc => ?_
      have hfc : Fr (fun _ => False) wr wc := by rw [hwc]; (with_reducible repeat' (first | exact Fr.refl _ _ | apply Fr.alloc | apply Fr.drew | apply Fr.drewN | refine Fr.setCell ?_ ?_ _))
      refine (script_is thread k (by omega) wc).mono ?_
      rintro e w3 ⟨B, rfl, hbs, hbn, hf3⟩
      have hb3 := HB.out.fr (hfc.trans hf3 (fun _ _ h => h)) (fun h => h)
      have hne : B ≠ PB := by have h1 := HB.out.lt; have h2 := hfc.size; omega
      have HBN := hid (show w.heap.size ≤ B by have h1 := HF.out.size; have h2 := hfc.size; omega)
      have HB3 := hid hb3
      have HBS := hid hbs
      have HNE := hid hne
      have HF3 := hid (HF.out.trans (hfc.trans hf3 (fun _ _ h => h)) (fun _ _ h => h))
      clear hwc hfc hbs hbn hf3 hb3 hne HB HF
      go_wp2_with (first | ((with_reducible apply wpList_setA (b := PB) (o := 8) (C := #[.slice ao QL co, .slice aa an ac, .int .i64 (words : Int), .int .i64 (locks : Int), .slice a1 AL c1, .slice a2 BL c2, .int .i64 room, .int .i64 window, .slice x n c]) (v := .slice (some ⟨B, 0, none⟩) 24 24) (T := 69)); (case zcx => rfl); (case zcy => rfl); (case zcv => rfl); (case zc1 => rfl); (case zcn => simp); (case zci => exact szDOS); (case zcb => exact HB3.out); intro w4 hb4 hf4 hs4; have hx4 : Blk w4 PB #[.slice ao QL co, .slice aa an ac, .int .i64 (words : Int), .int .i64 (locks : Int), .slice a1 AL c1, .slice a2 BL c2, .int .i64 room, .int .i64 window, .slice (some ⟨B, 0, none⟩) 24 24] 69 := hb4; have c0_p := hx4.cell 0; have c1_p := hx4.cell 1; have c2_p := hx4.cell 2; have c3_p := hx4.cell 3; have c4_p := hx4.cell 4; have c5_p := hx4.cell 5; have c6_p := hx4.cell 6; have c7_p := hx4.cell 7; have c8_p := hx4.cell 8; have l_p := hx4.lt; have HX4 := hid hx4; have HF4 := hid hf4; clear hb4 hf4 hs4 hx4) | still_step | (with_reducible first | refine wpStill_nil ?_ | refine Flow.Both.mk ?_ ?_ | exact True.intro) | (with_reducible refine Flow.same_mk rfl rfl rfl ?_; go_simp; done) | (with_reducible exact Flow.same_un rfl rfl rfl) | (refine Flow.region_still mixed ?hB ?_; (case hB => decide +kernel)))
      go_at_call 28
      refine Calls.named fun wc hwc => ?_
      have hfc : Fr (fun _ => False) w4 wc := by rw [hwc]; (with_reducible repeat' (first | exact Fr.refl _ _ | apply Fr.alloc | apply Fr.drew | apply Fr.drewN | refine Fr.setCell ?_ ?_ _))
      have hfw : Fr (fun _ => False) w wc := (HF3.out.trans HF4.out (fun z hz e => by have := HPW.out; omega)).trans hfc (fun _ _ h => h)
      have hbc := (HBS.out.fr HF4.out HNE.out).fr hfc (fun h => h)
      have hpt := HPT.out wc (scriptD thread k) (some ⟨B, 0, none⟩) 24 (HC.out.fr hfw (fun _ _ h => h)) (HMA.out.fr hfw (fun _ _ h => h)) (HMB.out.fr hfw (fun _ _ h => h)) (by rw [scriptD_len]; omega) (by have hv := Vw.of_blk (sz := 2) (n := (scriptD thread k).length) (R := fun _ => True) hbc trivial (by rw [List.size_toArray, dosC_length]); exact hv)
      rw [scriptD_len] at hpt
      refine hpt.mono ?_
      clear hpt
      rintro e w5 ⟨rfl, hf5⟩
      have hl5 := HLE.out (scriptD thread k)
      rw [scriptD_len] at hl5
      have hx5 := (HX4.out.fr hfc (fun h => h)).fr hf5 (fun h => h)
      have HX5 := hid hx5
      have HB5 := hid (hbc.fr hf5 (fun h => h))
      have HF5 := hid (hfw.trans hf5 (fun _ _ h => h))
      have c8_p := hx5.cell 8
      have l_p := hx5.lt
      clear hwc hfc hfw hbc hf5 hx5 c0_p c1_p c2_p c3_p c4_p c5_p c6_p c7_p HX4 HB3 HF3 HF4 HBS
      rcases partI_cases (traceP cs words locks room window (scriptD thread k) ma) (traceP cs words locks room window (scriptD thread k) mb) with ⟨e1, _⟩ | ⟨q, e1, e2, _, _⟩
      · have hss := HSS.out
        rw [e1, if_neg (by omega)] at hss
        have HS2 := hid (HSE.out.trans hss)
        rw [e1]
        clear hss e1 HSS HSE
        go_wp2_with (first | still_step | (with_reducible first | refine wpStill_nil ?_ | refine Flow.Both.mk ?_ ?_ | exact True.intro) | (with_reducible refine Flow.same_mk rfl rfl rfl ?_; go_simp; done) | (with_reducible exact Flow.same_un rfl rfl rfl) | (refine Flow.region_still mixed ?hB ?_; (case hB => decide +kernel)))
        go_roundw
        case rel => exact ⟨k + 1, some ⟨B, 0, none⟩, 24, 24, by omega, by go_num, HS2.out, HX5.out, HF5.out.trans (show Fr (fun _ => False) w5 _ by (with_reducible repeat' (first | exact Fr.refl _ _ | apply Fr.alloc | apply Fr.drew | apply Fr.drewN | refine Fr.setCell ?_ ?_ _))) (fun _ _ h => h)⟩
        case measure => simp [intOf]; omega
      · have hss := HSS.out
        rw [e1, if_pos (by omega), Int.toNat_natCast] at hss
        have HS2 := hid (HSE.out.trans hss)
        rw [e1]
        have hq24 : q < 24 := by omega
        have hq25 : ((q : Nat) : Int) + 1 ≤ 24 := by omega
        clear hss e1 e2 HSS HSE
        go_wp2_with (first | still_step | (with_reducible first | refine wpStill_nil ?_ | refine Flow.Both.mk ?_ ?_ | exact True.intro) | (with_reducible refine Flow.same_mk rfl rfl rfl ?_; go_simp; done) | (with_reducible exact Flow.same_un rfl rfl rfl) | (refine Flow.region_still mixed ?hB ?_; (case hB => decide +kernel)))
        go_ret
        rw [HS2.out]
        have hlen : ((scriptD thread k).take (q + 1)).length = q + 1 := by rw [List.length_take, scriptD_len]; omega
        rw [hlen]
        refine ⟨some ⟨B, 0, none⟩, 24, rfl, ?_, HF5.out.trans (show Fr (fun _ => False) w5 _ by (with_reducible repeat' (first | exact Fr.refl _ _ | apply Fr.alloc | apply Fr.drew | apply Fr.drewN | refine Fr.setCell ?_ ?_ _))) (fun _ _ h => h)⟩
        have hv := vw_take (m := q + 1) (Vw.of_blk (sz := 2) (n := 24) (R := fun z => w.heap.size ≤ z) HB5.out HBN.out (by rw [List.size_toArray, dosC_length, scriptD_len])) (by omega)
        rw [List.toList_toArray, dosC_take] at hv
        exact hv
    · obtain rfl : k = T := by omega
      have hse := HSE.out
      rw [Nat.sub_self] at hse
      go_wp2_with (first | still_step | (with_reducible first | refine wpStill_nil ?_ | refine Flow.Both.mk ?_ ?_ | exact True.intro) | (with_reducible refine Flow.same_mk rfl rfl rfl ?_; go_simp; done) | (with_reducible exact Flow.same_un rfl rfl rfl) | (refine Flow.region_still mixed ?hB ?_; (case hB => decide +kernel)))
      go_ret
      rw [hse]
      exact ⟨none, 0, rfl, ⟨rfl, .inl rfl⟩, HF.out⟩
end Go.Proofs.Ytbfeopakmjcapaa.Sp
