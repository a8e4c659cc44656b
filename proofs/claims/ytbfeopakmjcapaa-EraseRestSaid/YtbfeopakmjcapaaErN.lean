/-
  What a run does of a script: the iterator of package erase.
-/
import Derived.Test.YtbfeopakmjcapaaErB
import Derived.Test.YtbfeopakmjcapaaSpO
set_option linter.unusedVariables false
set_option linter.unusedSimpArgs false
set_option maxHeartbeats 4000000
set_option maxRecDepth 8000
namespace Go.Proofs.Ytbfeopakmjcapaa.Sp
open Go.RowKit Go.Proofs.Ytbfeopakmjcapaa.Seq Go.Proofs.Ytbfeopakmjcapaa.Tso
attribute [local irreducible] wpStill wpList Calls CallsIn

/-- A run of a script: how it stands at last, what was done, and whether a guess was open ahead. -/
def runs (s : SM) : List (Int × Int) → SM × List (Int × Int × Bool)
  | [] => (s, [])
  | d :: l => ((runs (s.doIt d.1 d.2).1 l).1, cond (s.doIt d.1 d.2).2.2 [(d.1, d.2, decide (0 < s.count d.2))] [] ++ (runs (s.doIt d.1 d.2).1 l).2)
theorem runs_snoc (d : Int × Int) : ∀ (l : List (Int × Int)) (s : SM), runs s (l ++ [d]) = (((runs s l).1.doIt d.1 d.2).1, (runs s l).2 ++ cond ((runs s l).1.doIt d.1 d.2).2.2 [(d.1, d.2, decide (0 < (runs s l).1.count d.2))] [])
  | [], s => by simp only [List.nil_append, runs, List.append_nil]; rfl
  | e :: l, s => by
    rw [List.cons_append, runs, runs_snoc d l]
    simp only [runs, List.append_assoc]
    rfl
theorem runs_fits : ∀ (l : List (Int × Int)) {s : SM} {e : Nat}, Fits s e → Fits (runs s l).1 (e + l.length)
  | [], _, _, h => h
  | d :: l, s, e, h => by
    have := runs_fits l (h.doIt d.1 d.2)
    rw [List.length_cons, show e + (l.length + 1) = e + 1 + l.length by omega]
    exact this

theorem runs_app : ∀ (a b : List (Int × Int)) (s : SM), (runs s (a ++ b)).2 = (runs s a).2 ++ (runs (runs s a).1 b).2
  | [], b, s => rfl
  | d :: a, b, s => by
    rw [List.cons_append, runs, runs, runs_app a b, List.append_assoc]
theorem runs_prefix (s : SM) {a b : List (Int × Int)} (h : a <+: b) : (runs s a).2 <+: (runs s b).2 := by
  obtain ⟨c, rfl⟩ := h
  rw [runs_app]
  exact List.prefix_append _ _
def didV (x : Int × Int × Bool) : Array Value := #[.agg #[.int .i64 x.1, .int .i64 x.2.1], .bool x.2.2]

theorem done1_runs (n : Nat) (hn : 3 ≤ n) (SB BL BM : Nat) (a : Option Addr) (c : Nat) (l : List (Int × Int)) (w0 : World) (s0 : SM) (e : Nat) (hfit : Fits s0 e) (hlen : e + l.length ≤ 100000)
    (hdos : ∀ (R : Nat → Prop) (st : SM) (L : List (Nat × Obj)) (W : World), At (SRp SB) w0 R st L W → (∀ b ∈ boxes BL BM SB a l.length c, b ∈ L) → Vw W 2 (fun _ => True) a l.length (dosC l)) :
    IterRuns Fence.wide n Try.prog 66 #[.pointer (some ⟨BL, 0, none⟩), .pointer (some ⟨BM, 0, none⟩)] didV (SRp SB) (boxes BL BM SB a l.length c) w0 s0 (runs s0 l).1 (runs s0 l).2 := by
  intro l0 K R L W hat hK hKb hY
  have HY := hid hY
  have HKB := hid hKb
  have HAT := hid hat
  have HK := hid hK
  have HD := hid hdos
  have hm1 : (BL, Obj.cells #[.slice a l.length c] 27 (0, 0)) ∈ boxes BL BM SB a l.length c := by simp [boxes]
  have hm2 : (BM, Obj.cells #[.pointer (some ⟨SB, 0, none⟩)] 32 (0, 0)) ∈ boxes BL BM SB a l.length c := by simp [boxes]
  have HM1 := hid hm1
  have HM2 := hid hm2
  have hb1 : Blk W BL #[.slice a l.length c] 27 := (hat.keep _ (hKb _ _ hK _ hm1)).1
  have b1 := hb1.cell 0
  have lb1 := hb1.lt
  obtain ⟨LL, hLL⟩ : ∃ LL, LL = l.length := ⟨_, rfl⟩
  have HLL := hid hLL
  clear hb1 hat hK hKb hY hdos hm1 hm2
  refine callsIn_of_wp Try.func66 rfl trivial ?_ rfl
  simp only [Try.ntmps66, List.size_toArray, List.length_cons, List.length_nil, Nat.reduceAdd, Nat.reduceSub, Array.replicate_succ, Array.replicate_zero, List.push_toArray, List.append_toArray, List.nil_append, List.cons_append]
  gi_wp2
  gi_loopw [11] (fun i wr => ∃ (k : Nat) (R : Nat → Prop) (L : List (Nat × Obj)), k ≤ LL ∧ i = .int .i64 k ∧ At (SRp SB) w0 R (runs s0 (l.take k)).1 L wr ∧ K (runs s0 (l.take k)).2 L) (fun i _ => LL - (intOf i).toNat)
  case atStart => exact ⟨0, R, L, Nat.zero_le _, rfl, HAT.out, HK.out⟩
  case round =>
    obtain ⟨k, R, L, hk, rfl, hat, hkk⟩ := hrel
    have HF := hid (show Fits (runs s0 (l.take k)).1 (e + k) from by
      have := runs_fits (l.take k) hfit
      rw [List.length_take, Nat.min_eq_left (by rw [← HLL.out]; exact hk)] at this
      exact this)
    have HAT1 := hid hat
    have HK1 := hid hkk
    have hb2 : Blk wr BM #[.pointer (some ⟨SB, 0, none⟩)] 32 := (hat.keep _ (HKB.out _ _ hkk _ HM2.out)).1
    have bm := hb2.cell 0
    have lbm := hb2.lt
    by_cases hlt : k < LL
    · have hkl : k < l.length := by have := HLL.out; omega
      have hne : dosC l ≠ [] := fun h => by have := congrArg List.length h; rw [dosC_length] at this; simp only [List.length_nil] at this; omega
      obtain ⟨r0, off0, ha, hr0, hcell⟩ := (HD.out R _ L wr hat (fun b hb => HKB.out _ _ hkk b hb)).cell hne
      have c0 : wr.cell? ⟨r0, off0 + k * 2, none⟩ = some (.int .i64 l[k].1) := hcell (k * 2) _ (dosC_get l k hkl).1
      have c1 : wr.cell? ⟨r0, off0 + k * 2 + 1, none⟩ = some (.int .i64 l[k].2) := hcell (k * 2 + 1) _ (dosC_get l k hkl).2
      have htk : l.take (k + 1) = l.take k ++ [l[k]] := List.take_succ_eq_append_getElem hkl
      have hsn := runs_snoc l[k] (l.take k) s0
      rw [← htk] at hsn
      have hpre : l.take (k + 1) <+: l := List.take_prefix _ _
      obtain ⟨s, hs⟩ : ∃ s, s = (runs s0 (l.take k)).1 := ⟨_, rfl⟩
      obtain ⟨xs, hxs⟩ : ∃ xs, xs = (runs s0 (l.take k)).2 := ⟨_, rfl⟩
      rw [← hs, ← hxs] at hsn
      rw [← hs] at HF HAT1
      rw [← hxs] at HK1
      have HSN := hid hsn
      clear hat hkk hcell hne htk hsn hs hxs HAT HK hb2
      generalize l[k] = d at *
      obtain ⟨kind, who⟩ := d
      dsimp only at c0 c1 HSN
      subst ha
      gi_wp2
      refine ⟨trivial, fun h => (by cases h), ?_⟩
      refine Calls.namedIn fun wc hwc => ?_
      have hfc : Fr (fun _ => False) wr wc := by rw [hwc]; (with_reducible repeat' (first | exact Fr.refl _ _ | apply Fr.alloc | apply Fr.drew | apply Fr.drewN | refine Fr.setCell ?_ ?_ _))
      have hxd : Blk wc wr.heap.size #[.int .i64 kind, .int .i64 who] 41 := by rw [hwc]; (repeat (first | exact Blk.new wr _ _ | with_reducible apply Blk.drew))
      refine (callsIn_wide.2 (count_is SB R s who wc (HAT1.out.rep.fr hfc (fun _ _ h => h)))).mono ?_
      rintro e' w3 ⟨rfl, hf3⟩
      obtain ⟨CN, hCN⟩ : ∃ c, c = s.count who := ⟨_, rfl⟩
      have HCN := hid hCN
      rw [← hCN]
      have hx3 := hxd.fr hf3 (fun h => h)
      have d0 := hx3.cell 0
      have d1 := hx3.cell 1
      have ld := hx3.lt
      have hf13 := hfc.trans hf3 (fun _ _ h => h)
      have bm3 := hf13.cell bm (fun h => h)
      have HX3 := hid hx3
      have HF3 := hid hf13
      clear hwc hfc hxd hf3 hCN hx3 hf13 c0 c1 bm b1
      obtain ⟨op, hop⟩ : ∃ b, b = decide (0 < CN) := ⟨_, rfl⟩
      gi_wp2
      refine ⟨trivial, fun h => (by cases h), ?_⟩
      refine Calls.namedIn fun wd hwd => ?_
      have hfd : Fr (fun _ => False) w3 wd := by rw [hwd]; (with_reducible repeat' (first | exact Fr.refl _ _ | apply Fr.alloc | apply Fr.drew | apply Fr.drewN | refine Fr.setCell ?_ ?_ _))
      obtain ⟨⟨s1, ⟨kk, kt, kw, kn⟩, is⟩, hres⟩ : ∃ r, r = s.doIt kind who := ⟨_, rfl⟩
      have hatd := (HAT1.out.fr (srp_ok SB) HF3.out).fr (srp_ok SB) hfd
      have hdi := do_is SB R s kind who wd hatd.rep HF.out.ok (HF.out.room (by omega)) HF.out.mem
      have hsn := HSN.out
      rw [← hres] at hdi hsn
      rw [← HCN.out, ← hop] at hsn
      refine (callsIn_wide.2 hdi).mono ?_
      rintro e' w4 ⟨rfl, R4, hm4, hv4⟩
      have hat4 := hatd.mv hm4 hv4.2.1 hv4.2.2
      have hx4 := (HX3.out.fr hfd (fun h => h)).fr hv4.2.2 (fun hr => by have := HAT1.out.rep.lt _ hr; omega)
      have d0 := hx4.cell 0
      have d1 := hx4.cell 1
      have ld := hx4.lt
      have HAT4 := hid hat4
      have HSN1 := hid hsn
      dsimp only [leakV]
      clear hwd hfd hatd hdi hsn hm4 hv4 hat4 hx4 hres HAT1 HX3 HF3 bm3 HSN
      cases is with
      | false =>
        gi_wp2
        refine ⟨fun _ h => (by cases h), ?_⟩
        gi_wp2
        go_roundw
        case rel =>
          refine ⟨k + 1, R4, L, by omega, by go_num, ?_, ?_⟩
          · rw [HSN1.out]; exact HAT4.out.fr (srp_ok SB) (by (with_reducible repeat' (first | exact Fr.refl _ _ | apply Fr.alloc | apply Fr.drew | apply Fr.drewN | refine Fr.setCell ?_ ?_ _)))
          · rw [HSN1.out]; simpa using HK1.out
        case measure => simp [intOf]; omega
      | true =>
        gi_wp2
        obtain ⟨w5, hw5⟩ : ∃ w5, w5 = w4.alloc (Obj.cells #[.int .i64 kk, .int .i64 kt, .int .i64 kw, .int .i64 kn] 37) := ⟨_, rfl⟩
        rw [← hw5]
        have hf5 : Fr (fun _ => False) w4 w5 := by rw [hw5]; (with_reducible repeat' (first | exact Fr.refl _ _ | apply Fr.alloc | apply Fr.drew | apply Fr.drewN | refine Fr.setCell ?_ ?_ _))
        have hat5 := HAT4.out.fr (srp_ok SB) hf5
        have hpre2 : xs ++ [(kind, who, decide (0 < CN))] <+: (runs s0 l).2 := by
          have h1 := runs_prefix s0 hpre
          rw [HSN1.out, hop] at h1
          exact h1
        obtain ⟨fn, tmps, assign, body, hy, hR⟩ := HY.out xs (kind, who, decide (0 < CN)) R4 s1 L w5 hpre2 hat5 HK1.out
        have hy2 : Sem.run Try.prog (Instr.yield l0 #[Value.agg #[.int .i64 kind, .int .i64 who], .bool (decide (0 < CN))]) w5 = .ok (.round l0 fn tmps assign body) w5 := hy
        rw [hy2, Oper.uponIn_round]
        refine ⟨fun h => (by cases h), hR.mono ?_⟩
        rintro e' w6 ⟨rfl, L6, hat6, hk6⟩
        have HAT6 := hid hat6
        have HK6 := hid hk6
        clear hy hR hy2 hat5 hf5 hw5 hat6 hk6 d0 d1 ld HAT4
        gi_wp2
        go_roundw
        case rel =>
          refine ⟨k + 1, R4, L6, by omega, by go_num, ?_, ?_⟩
          · rw [HSN1.out]; exact HAT6.out.fr (srp_ok SB) (by (with_reducible repeat' (first | exact Fr.refl _ _ | apply Fr.alloc | apply Fr.drew | apply Fr.drewN | refine Fr.setCell ?_ ?_ _)))
          · rw [HSN1.out, hop]; exact HK6.out
        case measure => simp [intOf]; omega
    · obtain rfl : k = LL := by omega
      have htk : l.take k = l := List.take_of_length_le (by rw [← HLL.out]; exact Nat.le_refl _)
      rw [htk] at hat hkk
      have HA9 := hid hat
      have HK9 := hid hkk
      clear hat hkk hb2 HAT1 HK1 HAT HK
      gi_wp2
      go_end0
      exact ⟨⟨_, rfl⟩, R, L, HA9.out.fr (srp_ok SB) (by (with_reducible repeat' (first | exact Fr.refl _ _ | apply Fr.alloc | apply Fr.drew | apply Fr.drewN | refine Fr.setCell ?_ ?_ _))), HK9.out⟩
end Go.Proofs.Ytbfeopakmjcapaa.Sp

/-
  Legal and List of package erase: what of a script can be done, and what of it is left without guesses.
-/
namespace Go.Proofs.Ytbfeopakmjcapaa.Sp
open Go.RowKit Go.Proofs.Ytbfeopakmjcapaa.Seq Go.Proofs.Ytbfeopakmjcapaa.Tso
attribute [local irreducible] wpStill wpList Calls CallsIn
attribute [local go_sem] Oper.semAt_some

theorem done_is (SB : Option Addr) (a : Option Addr) (n c : Nat) (w : World) :
    Calls Try.prog 44 #[.pointer SB, .slice a n c] w fun e w' => e = .returned (.func (.func 66) #[] #[.pointer (some ⟨w.heap.size + 1, 0, none⟩), .pointer (some ⟨w.heap.size, 0, none⟩)]) ∧
      Blk w' w.heap.size #[.pointer SB] 32 ∧ Blk w' (w.heap.size + 1) #[.slice a n c] 27 ∧ Fr (fun _ => False) w w' := by
  go_enter Try.func44, Try.ntmps44
  go_wp2_with (first | still_step | (with_reducible first | refine wpStill_nil ?_ | refine Flow.Both.mk ?_ ?_ | exact True.intro) | (with_reducible refine Flow.same_mk rfl rfl rfl ?_; go_simp; done) | (with_reducible exact Flow.same_un rfl rfl rfl) | (refine Flow.region_still mixed ?hB ?_; (case hB => decide +kernel)))
  go_ret
  exact ⟨rfl, (Blk.new w _ _).alloc _, Blk.new' (by simp), by (with_reducible repeat' (first | exact Fr.refl _ _ | apply Fr.alloc | apply Fr.drew | apply Fr.drewN | refine Fr.setCell ?_ ?_ _))⟩

theorem runs_len : ∀ (l : List (Int × Int)) (s : SM), (runs s l).2.length ≤ l.length
  | [], _ => Nat.le_refl _
  | d :: l, s => by
    have := runs_len l (s.doIt d.1 d.2).1
    simp only [runs, List.length_append, List.length_cons]
    cases (s.doIt d.1 d.2).2.2 <;> simp <;> omega
theorem infoDO : (Try.prog.info? 41).map (fun i => (i.zero, i.size, i.bytes)) = some (some (.agg #[.int .i64 0, .int .i64 0]), 2, 16) := by kernel_rfl
def projD (x : Int × Int × Bool) : Int × Int := (x.1, x.2.1)
/-- What a caller that collects has in mind: its box, the iterator's boxes, its row. -/
def Coll (OB : Nat) (Lb : List (Nat × Obj)) (f : List (Int × Int × Bool) → List (Int × Int)) (pre : List (Int × Int × Bool)) (L : List (Nat × Obj)) : Prop :=
  ∃ (a : Option Addr) (c : Nat) (Lr : List (Nat × Obj)), L = (OB, .cells #[.slice a (f pre).length c] 27 (0, 0)) :: (Lb ++ Lr) ∧ Lr.length ≤ 1 ∧
    ∀ w', (∀ e ∈ Lr, w'.heap[e.1]? = some e.2) → OwnAt w' 41 2 (fun k => ∃ e ∈ Lr, k = e.1) a (f pre).length c (dosC (f pre))

theorem legal_is (Rc Rm : Nat → Prop) (ao am aa al : Option Addr) (co cm an ac cl : Nat) (qs : List ((Option Addr × Nat) × List Ins)) (words locks room : Nat) (window : Int) (mem : List Int) (l : List (Int × Int)) (w : World) (hc : Codes w Rc ao qs) (hm : Vw w 1 Rm am mem.length (ints mem)) (hmn : am = none → mem.length = 0)
    (hq : qs.length ≤ 1000) (hl : mem.length ≤ 100000) (hi : ∀ q ∈ qs, q.2.length ≤ 100000) (hw : words ≤ 65536) (hlk : locks ≤ 8) (hr : 1 ≤ room ∧ room ≤ 1000) (hwin : 1 ≤ window ∧ window ≤ 64)
    (hfit : Fits (startS (qs.map (·.2)) words mem locks room window) 0) (hll : l.length ≤ 1000) (hd : Vw w 2 (fun _ => True) al l.length (dosC l)) :
    Calls Try.prog 22 #[.agg #[.slice ao qs.length co, .slice aa an ac, .int .i64 (words : Int), .int .i64 (locks : Int)], .slice am mem.length cm, .agg #[.int .i64 (room : Int), .int .i64 window], .slice al l.length cl] w fun e w' =>
      ∃ a c, e = .returned (.slice a ((runs (startS (qs.map (·.2)) words mem locks room window) l).2.map projD).length c) ∧ OwnAt w' 41 2 (fun z => w.heap.size ≤ z) a ((runs (startS (qs.map (·.2)) words mem locks room window) l).2.map projD).length c (dosC ((runs (startS (qs.map (·.2)) words mem locks room window) l).2.map projD)) ∧ Fr (fun _ => False) w w' := by
  obtain ⟨i0, hi0, hz0, hz1, hz2⟩ := info_parts infoDO
  have HC := hid hc
  have HM := hid hm
  have HMN := hid hmn
  have HI := hid hi
  have HD := hid hd
  obtain ⟨s0, hs0⟩ : ∃ s, s = startS (qs.map (·.2)) words mem locks room window := ⟨_, rfl⟩
  rw [← hs0] at hfit ⊢
  have HS0 := hid hs0
  obtain ⟨QL, hQL⟩ : ∃ QL, QL = qs.length := ⟨_, rfl⟩
  have HQL := hid hQL
  rw [← hQL] at hq ⊢
  obtain ⟨ML, hML⟩ : ∃ ML, ML = mem.length := ⟨_, rfl⟩
  have HML := hid hML
  rw [← hML] at hl ⊢
  obtain ⟨LL, hLL⟩ : ∃ LL, LL = l.length := ⟨_, rfl⟩
  have HLL := hid hLL
  rw [← hLL] at hll ⊢
  clear hc hm hmn hi hd hs0 hQL hML hLL
  refine (callsIn_wide (n := 6)).1 ?_
  refine callsIn_of_wp_marks Try.func22 rfl trivial ?_ rfl
  simp only [Try.ntmps22, List.size_toArray, List.length_cons, List.length_nil, Nat.reduceAdd, Nat.reduceSub, Array.replicate_succ, Array.replicate_zero, List.push_toArray, List.append_toArray, List.nil_append, List.cons_append]
  gi_wp2
  refine ⟨trivial, ?_⟩
  refine Calls.namedIn fun wc hwc => ?_
  have hfc : Fr (fun _ => False) w wc := by rw [hwc]; (with_reducible repeat' (first | exact Fr.refl _ _ | apply Fr.alloc | apply Fr.drew | apply Fr.drewN | refine Fr.setCell ?_ ?_ _))
  have hob : Blk wc (w.heap.size + 2) #[.slice none 0 0] 27 := by rw [hwc]; (repeat (first | exact Blk.new' (by simp) | with_reducible apply Blk.drew | with_reducible apply Blk.alloc))
  rw [HQL.out, HML.out]
  refine (callsIn_wide.2 (snew_is Rc Rm ao am aa co cm an ac qs words locks room window mem wc (HC.out.fr hfc (fun _ _ h => h)) (HM.out.fr hfc (fun _ _ h => h)) HMN.out (by have := HQL.out; omega) (by have := HML.out; omega) HI.out hw hlk hr hwin)).mono ?_
  rintro e w1 ⟨SB, rfl, hs1, hf1⟩
  rw [← HS0.out] at hs1
  have hwc2 : wc.heap.size = w.heap.size + 3 := by rw [hwc]; simp
  have hob1 := hob.fr hf1 (fun h => h)
  have HF1 := hid (hfc.trans hf1 (fun _ _ h => h))
  have HS1 := hid hs1
  have HOB1 := hid hob1
  rw [← HQL.out, ← HML.out]
  clear hwc hfc hob hs1 hob1
  gi_wp2
  refine ⟨trivial, ?_⟩
  refine Calls.namedIn fun wd hwd => ?_
  have hfd : Fr (fun _ => False) w1 wd := by rw [hwd]; (with_reducible repeat' (first | exact Fr.refl _ _ | apply Fr.alloc | apply Fr.drew | apply Fr.drewN | refine Fr.setCell ?_ ?_ _))
  refine (callsIn_wide.2 (done_is _ al LL cl wd)).mono ?_
  rintro e w2 ⟨rfl, hbm, hbl, hf2⟩
  have hsz1 := HF1.out.size
  have hlob := HOB1.out.lt
  have hob2 := (HOB1.out.fr hfd (fun h => h)).fr hf2 (fun h => h)
  have hsr2 := (HS1.out.fr hfd (fun _ _ h => h)).fr hf2 (fun _ _ h => h)
  have hszd : w1.heap.size ≤ wd.heap.size := hfd.size
  obtain ⟨BM, hBM⟩ : ∃ BM, BM = wd.heap.size := ⟨_, rfl⟩
  obtain ⟨OB, hOB⟩ : ∃ OB, OB = w.heap.size + 2 := ⟨_, rfl⟩
  rw [← hBM] at hbm hbl
  rw [← hOB] at hob2
  have hat : At (SRp SB) w (fun k => wc.heap.size ≤ k ∧ k < w1.heap.size) s0 ((OB, .cells #[.slice none 0 0] 27 (0, 0)) :: (boxes (BM + 1) BM SB al LL cl ++ [])) w2 := by
    refine ⟨hsr2, ?_, ?_, (HF1.out.trans hfd (fun _ _ h => h)).trans hf2 (fun _ _ h => h), fun z hz => by have := hz.1; omega⟩
    · intro e he
      simp only [boxes, List.append_nil, List.mem_cons, List.not_mem_nil, or_false] at he
      rcases he with rfl | rfl | rfl
      · exact ⟨hob2, fun h => by have := h.1; dsimp only at this; omega, by dsimp only; omega⟩
      · exact ⟨hbl, fun h => by have := h.2; dsimp only at this; omega, by dsimp only; omega⟩
      · exact ⟨hbm, fun h => by have := h.2; dsimp only at this; omega, by dsimp only; omega⟩
    · simp [boxes]
      omega
  have HAT := hid hat
  rw [← hBM]
  have hOB2 : w.heap.size + 1 + 1 = OB := by omega
  have HOBE := hid hOB2
  clear hbm hbl hf2 hfd hwd hob2 hsr2 hat hBM hsz1 hlob hszd HOB1 HS1 HF1 hOB hwc2
  gi_wp2
  have hle := HLL.out
  subst hle
  refine wpIn_rangeFunc_at (F := Fence.wide) rfl (by omega) (gf := 66) (lb := #[.pointer (some ⟨BM + 1, 0, none⟩), .pointer (some ⟨BM, 0, none⟩)]) rfl trivial (enters_of Try.func66 (by kernel_rfl) rfl) (srp_ok SB)
    (done1_runs 5 (by omega) SB (BM + 1) BM al cl l w s0 0 hfit (by omega) ?dos) (fun x => rfl) HAT.out (Coll OB (boxes (BM + 1) BM SB al l.length cl) (fun pre => pre.map projD)) ?start ?bxs
    (fun pre x L' a' => ∃ (DB : Nat) (L0 : List (Nat × Obj)), L' = (DB, .cells #[.int .i64 x.1, .int .i64 x.2.1] 41 (0, 0)) :: L0 ∧ Coll OB (boxes (BM + 1) BM SB al l.length cl) (fun pre => pre.map projD) pre L0 ∧
      a' = { tmps := #[Value.agg #[.slice ao QL co, .slice aa an ac, .int .i64 (words : Int), .int .i64 (locks : Int)], .slice am ML cm, .agg #[.int .i64 (room : Int), .int .i64 window], .slice al l.length cl, .pointer (some ⟨w.heap.size, 0, none⟩), undef, .pointer (some ⟨w.heap.size + 1, 0, none⟩), undef, .slice none 0 0, .pointer (some ⟨OB, 0, none⟩), .pointer (some ⟨DB, 0, none⟩),
        .agg #[.slice ao QL co, .slice aa an ac, .int .i64 (words : Int), .int .i64 (locks : Int)], .slice am ML cm, .agg #[.int .i64 (room : Int), .int .i64 window], .pointer (some ⟨SB, 0, none⟩), .slice al l.length cl, .func (.func 66) #[] #[.pointer (some ⟨BM + 1, 0, none⟩), .pointer (some ⟨BM, 0, none⟩)], .agg #[.int .i64 x.1, .int .i64 x.2.1], .bool x.2.2, undef, undef, undef, undef, undef], defers := [] })
    ?assign ?body ?done
  case dos => exact fun R st L W hat _ => HD.out.fr hat.fr0 (fun _ _ h => h)
  case start => exact ⟨none, 0, [], rfl, Nat.zero_le _, fun w' _ => OwnAt.nil _ _ _ _ _⟩
  case bxs =>
    rintro pre L ⟨a, c, Lr, rfl, _, _⟩ b hb
    exact List.mem_cons_of_mem _ (List.mem_append.2 (.inl hb))
  case assign =>
    intro l0 pre x R st Lx L W hpre hat hK
    simp only [didV]
    gi_wp2
    exact ⟨(W.heap.size, .cells #[.int .i64 x.1, .int .i64 x.2.1] 41 (0, 0)) :: L, at_alloc (srp_ok SB) hat _, W.heap.size, L, rfl, hK, rfl⟩
  case body =>
    rintro l0 pre x R st Lx L' a' W hpre hat ⟨DB, L0, rfl, ⟨a, c, Lr, rfl, hlr, hown⟩, rfl⟩
    obtain ⟨x1, x2, x3⟩ := x
    have hdb : Blk W DB #[.int .i64 x1, .int .i64 x2] 41 := (hat.keep _ (List.mem_append.2 (.inr (List.mem_cons_self ..)))).1
    have hob : Blk W OB #[.slice a (pre.map projD).length c] 27 := (hat.keep _ (List.mem_append.2 (.inr (List.mem_cons_of_mem _ (List.mem_cons_self ..))))).1
    obtain ⟨PL, hPL⟩ : ∃ PL, PL = (pre.map projD).length := ⟨_, rfl⟩
    have hpl : PL ≤ 1000 := by
      have h1 := hpre.length_le
      have h2 := runs_len l s0
      rw [hPL, List.length_map]
      simp at h1
      omega
    have hown0 := hown W (fun e he => (hat.keep e (List.mem_append.2 (.inr (List.mem_cons_of_mem _ (List.mem_cons_of_mem _ (List.mem_append.2 (.inr he))))))).1)
    rw [← hPL] at hob hown0
    obtain ⟨Q, hQ⟩ : ∃ Q : Nat → Prop, Q = (fun k => ∃ e ∈ Lr, k = e.1) := ⟨_, rfl⟩
    rw [← hQ] at hown0
    have hnq : ¬ Q OB := by
      have hn := hat.nodup
      rw [List.map_append, List.nodup_append] at hn
      have hn := hn.2.1
      simp only [List.map_cons, List.nodup_cons, List.map_append, List.mem_append, not_or] at hn
      rw [hQ]
      rintro ⟨e, he, h⟩
      exact hn.2.1.2 (h ▸ List.mem_map.2 ⟨e, he, rfl⟩)
    have d0 := hdb.cell 0
    have d1 := hdb.cell 1
    have o0 := hob.cell 0
    have of0 := hob.free 0
    have ldb := hdb.lt
    have lob := hob.lt
    have HAT2 := hid hat
    have HOW := hid hown0
    have HQ := hid hQ
    have HPL := hid hPL
    have HOBB := hid hob
    have hnq2 : ∀ w2, Fr Q W w2 → Blk w2 OB #[.slice a PL c] 27 := fun w2 hf => hob.fr hf hnq
    have HNQ := hid hnq2
    clear hat hown hown0 hQ hPL hdb hob hnq2
    gi_wp2_with (gi_at_builtin; refine wpListIn_append_Own _ rfl (.tmp 19) (.tmp 21) 27 rfl 41 i0 (.agg #[.int .i64 0, .int .i64 0]) 2 16 Try.underlying27 hi0 hz0 hz1 hz2 rfl (by decide) Q (fun _ => True) a PL c (dosC (pre.map projD)) rfl ?own (some ⟨W.heap.size, 0, none⟩) 1 1 (dosC [(x1, x2)]) rfl ?vw ?one ?b1 ?b2 ?grow)
    case own => exact HOW.out.fr (S := fun _ => False) (by (with_reducible repeat' (first | exact Fr.refl _ _ | apply Fr.alloc | apply Fr.drew | apply Fr.drewN | refine Fr.setCell ?_ ?_ _))) (fun _ _ h => h)
    case vw => exact Vw.of_blk (sz := 2) (n := 1) (R := fun _ => True) (Blk.new W #[.int .i64 x1, .int .i64 x2] 41) trivial rfl
    case one => intro u hu; simp [dosC] at hu; rcases hu with rfl | rfl <;> rfl
    case b1 => unfold maxLen; omega
    case b2 => omega
    case grow =>
      intro ao' cap' w3 ho3 hf3
      have hfw : Fr Q W w3 := (show Fr Q W _ by (with_reducible repeat' (first | exact Fr.refl _ _ | apply Fr.alloc | apply Fr.drew | apply Fr.drewN | refine Fr.setCell ?_ ?_ _))).trans hf3 (fun _ _ h => h)
      have hb3 := HNQ.out w3 hfw
      have o0 := hb3.cell 0
      have of0 := hb3.free 0
      have lob3 := hb3.lt
      have HB3 := hid hb3
      have HFW := hid hfw
      have HO3 := hid ho3
      clear hb3 hfw ho3 hf3
      gi_wp2
      have hfs : Fr (fun z => z = OB) w3 (w3.setCell ⟨OB, 0, none⟩ (.slice ao' (PL + 1) cap')) := Fr.setCell (S := fun z => z = OB) (Fr.refl _ _) (fun _ => rfl) _
      have ho9 := HO3.out.fr hfs (fun z hz e => by
        subst e
        rcases hz with h | h
        · exact hnq h
        · (try simp at h); omega)
      obtain ⟨Lr', hl9, hL9, hown9⟩ := own_rowO ho9
      have e1 : (pre ++ [(x1, x2, x3)]).map projD = pre.map projD ++ [(x1, x2)] := by simp [projD]
      have e2 : dosC (pre.map projD ++ [(x1, x2)]) = dosC (pre.map projD) ++ dosC [(x1, x2)] := by simp [dosC]
      refine ⟨(OB, .cells #[.slice ao' ((pre ++ [(x1, x2, x3)]).map projD).length cap'] 27 (0, 0)) :: (boxes (BM + 1) BM SB al l.length cl ++ Lr'), ?_, ao', cap', Lr', rfl, hl9, ?_⟩
      · refine coll_end (srp_ok SB) HAT2.out (W' := w3.setCell ⟨OB, 0, none⟩ (.slice ao' (PL + 1) cap')) ?_ ?_ hl9 (fun e he => ?_)
        · exact (HFW.out.mono (fun z _ h => .inr (by rw [HQ.out] at h; exact h))).trans hfs (fun z _ h => .inl h)
        · rw [e1, List.length_append, ← HPL.out]
          exact Blk.set HB3.out 0 _
        · obtain ⟨h1, h2⟩ := hL9 e he
          refine ⟨h1, ?_⟩
          rcases h2 with h2 | h2
          · left; rw [HQ.out] at h2; exact h2
          · right; (try simp at h2); omega
      · dsimp only
        rw [e1, e2, List.length_append, ← HPL.out]
        exact hown9
  case done =>
    rintro D0 R' L' W hat ⟨a, c, Lr, rfl, hlr, hown⟩
    have hK : W.heap[D0]? = some (.deferred (some [])) := (hat.keep _ (List.mem_cons_self ..)).1
    have hob : Blk W OB #[.slice a ((runs s0 l).2.map projD).length c] 27 := (hat.keep _ (List.mem_cons_of_mem _ (List.mem_cons_self ..))).1
    have hmr : ∀ e ∈ Lr, e ∈ (D0, Obj.deferred (some [])) :: (OB, .cells #[.slice a ((runs s0 l).2.map projD).length c] 27 (0, 0)) :: (boxes (BM + 1) BM SB al l.length cl ++ Lr) := fun e he => List.mem_cons_of_mem _ (List.mem_cons_of_mem _ (List.mem_append.2 (.inr he)))
    have hown0 := hown W (fun e he => (hat.keep e (hmr e he)).1)
    have hown1 : OwnAt (W.putObj D0 (.deferred none)) 41 2 (fun z => w.heap.size ≤ z) a ((runs s0 l).2.map projD).length c (dosC ((runs s0 l).2.map projD)) := by
      refine (hown0.fr (At.fr_put W D0 (.deferred none)) ?_).mono ?_
      · rintro z ⟨e, he, rfl⟩ e2
        have hn := hat.nodup
        simp only [List.map_cons, List.nodup_cons] at hn
        exact hn.1 (e2 ▸ List.mem_cons_of_mem _ (List.mem_map.2 ⟨e, List.mem_append.2 (.inr he), rfl⟩))
      · rintro z _ ⟨e, he, rfl⟩
        exact (hat.keep e (hmr e he)).2.2
    have hfd : Fr (fun _ => False) w (W.putObj D0 (.deferred none)) := hat.fr0.trans (At.fr_put W D0 _) (fun z hz e => by
      subst e
      have := (hat.keep _ (List.mem_cons_self ..)).2.2
      dsimp only at this; omega)
    have o0 := hob.cell 0
    have lob := hob.lt
    have HOW1 := hid hown1
    have HFD := hid hfd
    have HK := hid hK
    clear hK hob hmr hown0 hown1 hfd hown hat
    obtain ⟨out, hout⟩ : ∃ out, out = (runs s0 l).2.map projD := ⟨_, rfl⟩
    rw [← hout] at o0
    gi_wp2
    refine ⟨by simp, .inl ⟨_, _, rfl, run_takeDeferred HK.out, ?_⟩⟩
    subst hout
    exact ⟨_, results_tmp rfl _ _ _, a, c, rfl, by have h := HOW1.out; rw [List.length_map] at h; exact h, HFD.out⟩
end Go.Proofs.Ytbfeopakmjcapaa.Sp

/-
  List of package erase: what of a script is left without guesses.
-/
namespace Go.Proofs.Ytbfeopakmjcapaa.Sp
open Go.RowKit Go.Proofs.Ytbfeopakmjcapaa.Seq Go.Proofs.Ytbfeopakmjcapaa.Tso
attribute [local irreducible] wpStill wpList Calls CallsIn
attribute [local go_sem] Oper.semAt_some

def keepD (x : Int × Int × Bool) : Bool := x.1 == 1 || (x.1 == 0 && !x.2.2)
def bareD (xs : List (Int × Int × Bool)) : List (Int × Int) := (xs.filter keepD).map projD
theorem bareD_yes (pre : List (Int × Int × Bool)) {x : Int × Int × Bool} (h : keepD x = true) : bareD (pre ++ [x]) = bareD pre ++ [(x.1, x.2.1)] := by simp [bareD, List.filter_append, h, projD]
theorem bareD_no (pre : List (Int × Int × Bool)) {x : Int × Int × Bool} (h : keepD x = false) : bareD (pre ++ [x]) = bareD pre := by simp [bareD, List.filter_append, h]
theorem bareD_len (pre : List (Int × Int × Bool)) : (bareD pre).length ≤ pre.length := by
  unfold bareD
  rw [List.length_map]
  exact List.length_filter_le _ _

theorem list_is (Rc Rm : Nat → Prop) (ao am aa al : Option Addr) (co cm an ac cl : Nat) (qs : List ((Option Addr × Nat) × List Ins)) (words locks room : Nat) (window : Int) (mem : List Int) (l : List (Int × Int)) (w : World) (hc : Codes w Rc ao qs) (hm : Vw w 1 Rm am mem.length (ints mem)) (hmn : am = none → mem.length = 0)
    (hq : qs.length ≤ 1000) (hl : mem.length ≤ 100000) (hi : ∀ q ∈ qs, q.2.length ≤ 100000) (hw : words ≤ 65536) (hlk : locks ≤ 8) (hr : 1 ≤ room ∧ room ≤ 1000) (hwin : 1 ≤ window ∧ window ≤ 64)
    (hfit : Fits (startS (qs.map (·.2)) words mem locks room window) 0) (hll : l.length ≤ 1000) (hd : Vw w 2 (fun _ => True) al l.length (dosC l)) :
    Calls Try.prog 21 #[.agg #[.slice ao qs.length co, .slice aa an ac, .int .i64 (words : Int), .int .i64 (locks : Int)], .slice am mem.length cm, .agg #[.int .i64 (room : Int), .int .i64 window], .slice al l.length cl] w fun e w' =>
      ∃ a c, e = .returned (.slice a (bareD (runs (startS (qs.map (·.2)) words mem locks room window) l).2).length c) ∧ OwnAt w' 41 2 (fun z => w.heap.size ≤ z) a (bareD (runs (startS (qs.map (·.2)) words mem locks room window) l).2).length c (dosC (bareD (runs (startS (qs.map (·.2)) words mem locks room window) l).2)) ∧ Fr (fun _ => False) w w' := by
  obtain ⟨i0, hi0, hz0, hz1, hz2⟩ := info_parts infoDO
  have HC := hid hc
  have HM := hid hm
  have HMN := hid hmn
  have HI := hid hi
  have HD := hid hd
  obtain ⟨s0, hs0⟩ : ∃ s, s = startS (qs.map (·.2)) words mem locks room window := ⟨_, rfl⟩
  rw [← hs0] at hfit ⊢
  have HS0 := hid hs0
  obtain ⟨QL, hQL⟩ : ∃ QL, QL = qs.length := ⟨_, rfl⟩
  have HQL := hid hQL
  rw [← hQL] at hq ⊢
  obtain ⟨ML, hML⟩ : ∃ ML, ML = mem.length := ⟨_, rfl⟩
  have HML := hid hML
  rw [← hML] at hl ⊢
  obtain ⟨LL, hLL⟩ : ∃ LL, LL = l.length := ⟨_, rfl⟩
  have HLL := hid hLL
  rw [← hLL] at hll ⊢
  clear hc hm hmn hi hd hs0 hQL hML hLL
  refine (callsIn_wide (n := 6)).1 ?_
  refine callsIn_of_wp_marks Try.func21 rfl trivial ?_ rfl
  simp only [Try.ntmps21, List.size_toArray, List.length_cons, List.length_nil, Nat.reduceAdd, Nat.reduceSub, Array.replicate_succ, Array.replicate_zero, List.push_toArray, List.append_toArray, List.nil_append, List.cons_append]
  gi_wp2
  refine ⟨trivial, ?_⟩
  refine Calls.namedIn fun wc hwc => ?_
  have hfc : Fr (fun _ => False) w wc := by rw [hwc]; (with_reducible repeat' (first | exact Fr.refl _ _ | apply Fr.alloc | apply Fr.drew | apply Fr.drewN | refine Fr.setCell ?_ ?_ _))
  have hob : Blk wc (w.heap.size + 2) #[.slice none 0 0] 27 := by rw [hwc]; (repeat (first | exact Blk.new' (by simp) | with_reducible apply Blk.drew | with_reducible apply Blk.alloc))
  rw [HQL.out, HML.out]
  refine (callsIn_wide.2 (snew_is Rc Rm ao am aa co cm an ac qs words locks room window mem wc (HC.out.fr hfc (fun _ _ h => h)) (HM.out.fr hfc (fun _ _ h => h)) HMN.out (by have := HQL.out; omega) (by have := HML.out; omega) HI.out hw hlk hr hwin)).mono ?_
  rintro e w1 ⟨SB, rfl, hs1, hf1⟩
  rw [← HS0.out] at hs1
  have hwc2 : wc.heap.size = w.heap.size + 3 := by rw [hwc]; simp
  have hob1 := hob.fr hf1 (fun h => h)
  have HF1 := hid (hfc.trans hf1 (fun _ _ h => h))
  have HS1 := hid hs1
  have HOB1 := hid hob1
  rw [← HQL.out, ← HML.out]
  clear hwc hfc hob hs1 hob1
  gi_wp2
  refine ⟨trivial, ?_⟩
  refine Calls.namedIn fun wd hwd => ?_
  have hfd : Fr (fun _ => False) w1 wd := by rw [hwd]; (with_reducible repeat' (first | exact Fr.refl _ _ | apply Fr.alloc | apply Fr.drew | apply Fr.drewN | refine Fr.setCell ?_ ?_ _))
  refine (callsIn_wide.2 (done_is _ al LL cl wd)).mono ?_
  rintro e w2 ⟨rfl, hbm, hbl, hf2⟩
  have hsz1 := HF1.out.size
  have hlob := HOB1.out.lt
  have hob2 := (HOB1.out.fr hfd (fun h => h)).fr hf2 (fun h => h)
  have hsr2 := (HS1.out.fr hfd (fun _ _ h => h)).fr hf2 (fun _ _ h => h)
  have hszd : w1.heap.size ≤ wd.heap.size := hfd.size
  obtain ⟨BM, hBM⟩ : ∃ BM, BM = wd.heap.size := ⟨_, rfl⟩
  obtain ⟨OB, hOB⟩ : ∃ OB, OB = w.heap.size + 2 := ⟨_, rfl⟩
  rw [← hBM] at hbm hbl
  rw [← hOB] at hob2
  have hat : At (SRp SB) w (fun k => wc.heap.size ≤ k ∧ k < w1.heap.size) s0 ((OB, .cells #[.slice none 0 0] 27 (0, 0)) :: (boxes (BM + 1) BM SB al LL cl ++ [])) w2 := by
    refine ⟨hsr2, ?_, ?_, (HF1.out.trans hfd (fun _ _ h => h)).trans hf2 (fun _ _ h => h), fun z hz => by have := hz.1; omega⟩
    · intro e he
      simp only [boxes, List.append_nil, List.mem_cons, List.not_mem_nil, or_false] at he
      rcases he with rfl | rfl | rfl
      · exact ⟨hob2, fun h => by have := h.1; dsimp only at this; omega, by dsimp only; omega⟩
      · exact ⟨hbl, fun h => by have := h.2; dsimp only at this; omega, by dsimp only; omega⟩
      · exact ⟨hbm, fun h => by have := h.2; dsimp only at this; omega, by dsimp only; omega⟩
    · simp [boxes]
      omega
  have HAT := hid hat
  rw [← hBM]
  have hOB2 : w.heap.size + 1 + 1 = OB := by omega
  have HOBE := hid hOB2
  clear hbm hbl hf2 hfd hwd hob2 hsr2 hat hBM hsz1 hlob hszd HOB1 HS1 HF1 hOB hwc2
  gi_wp2
  have hle := HLL.out
  subst hle
  refine wpIn_rangeFunc_at (F := Fence.wide) rfl (by omega) (gf := 66) (lb := #[.pointer (some ⟨BM + 1, 0, none⟩), .pointer (some ⟨BM, 0, none⟩)]) rfl trivial (enters_of Try.func66 (by kernel_rfl) rfl) (srp_ok SB)
    (done1_runs 5 (by omega) SB (BM + 1) BM al cl l w s0 0 hfit (by omega) ?dos) (fun x => rfl) HAT.out (Coll OB (boxes (BM + 1) BM SB al l.length cl) bareD) ?start ?bxs
    (fun pre x L' a' => ∃ (DB : Nat) (L0 : List (Nat × Obj)), L' = (DB, .cells #[.int .i64 x.1, .int .i64 x.2.1] 41 (0, 0)) :: L0 ∧ Coll OB (boxes (BM + 1) BM SB al l.length cl) bareD pre L0 ∧
      a' = { tmps := #[Value.agg #[.slice ao QL co, .slice aa an ac, .int .i64 (words : Int), .int .i64 (locks : Int)], .slice am ML cm, .agg #[.int .i64 (room : Int), .int .i64 window], .slice al l.length cl, .pointer (some ⟨w.heap.size, 0, none⟩), undef, .pointer (some ⟨w.heap.size + 1, 0, none⟩), undef, .slice none 0 0, .pointer (some ⟨OB, 0, none⟩), .pointer (some ⟨DB, 0, none⟩), .bool x.2.2,
        .agg #[.slice ao QL co, .slice aa an ac, .int .i64 (words : Int), .int .i64 (locks : Int)], .slice am ML cm, .agg #[.int .i64 (room : Int), .int .i64 window], .pointer (some ⟨SB, 0, none⟩), .slice al l.length cl, .func (.func 66) #[] #[.pointer (some ⟨BM + 1, 0, none⟩), .pointer (some ⟨BM, 0, none⟩)], .agg #[.int .i64 x.1, .int .i64 x.2.1], .bool x.2.2, undef, undef, undef, undef, undef, undef, undef, undef, undef, undef, undef, undef, undef, undef, undef, undef, undef], defers := [] })
    ?assign ?body ?done
  case dos => exact fun R st L W hat _ => HD.out.fr hat.fr0 (fun _ _ h => h)
  case start => exact ⟨none, 0, [], rfl, Nat.zero_le _, fun w' _ => OwnAt.nil _ _ _ _ _⟩
  case bxs =>
    rintro pre L ⟨a, c, Lr, rfl, _, _⟩ b hb
    exact List.mem_cons_of_mem _ (List.mem_append.2 (.inl hb))
  case assign =>
    intro l0 pre x R st Lx L W hpre hat hK
    simp only [didV]
    gi_wp2
    exact ⟨(W.heap.size, .cells #[.int .i64 x.1, .int .i64 x.2.1] 41 (0, 0)) :: L, at_alloc (srp_ok SB) hat _, W.heap.size, L, rfl, hK, rfl⟩
  case body =>
    rintro l0 pre x R st Lx L' a' W hpre hat ⟨DB, L0, rfl, ⟨a, c, Lr, rfl, hlr, hown⟩, rfl⟩
    obtain ⟨x1, x2, x3⟩ := x
    have hdb : Blk W DB #[.int .i64 x1, .int .i64 x2] 41 := (hat.keep _ (List.mem_append.2 (.inr (List.mem_cons_self ..)))).1
    have hob : Blk W OB #[.slice a (bareD pre).length c] 27 := (hat.keep _ (List.mem_append.2 (.inr (List.mem_cons_of_mem _ (List.mem_cons_self ..))))).1
    obtain ⟨PL, hPL⟩ : ∃ PL, PL = (bareD pre).length := ⟨_, rfl⟩
    have hpl : PL ≤ 1000 := by
      have h1 := hpre.length_le
      have h2 := runs_len l s0
      have h3 := bareD_len pre
      rw [hPL]
      simp at h1
      omega
    have hown0 := hown W (fun e he => (hat.keep e (List.mem_append.2 (.inr (List.mem_cons_of_mem _ (List.mem_cons_of_mem _ (List.mem_append.2 (.inr he))))))).1)
    rw [← hPL] at hob hown0
    obtain ⟨Q, hQ⟩ : ∃ Q : Nat → Prop, Q = (fun k => ∃ e ∈ Lr, k = e.1) := ⟨_, rfl⟩
    rw [← hQ] at hown0
    have hnq : ¬ Q OB := by
      have hn := hat.nodup
      rw [List.map_append, List.nodup_append] at hn
      have hn := hn.2.1
      simp only [List.map_cons, List.nodup_cons, List.map_append, List.mem_append, not_or] at hn
      rw [hQ]
      rintro ⟨e, he, h⟩
      exact hn.2.1.2 (h ▸ List.mem_map.2 ⟨e, he, rfl⟩)
    have d0 := hdb.cell 0
    have d1 := hdb.cell 1
    have o0 := hob.cell 0
    have of0 := hob.free 0
    have ldb := hdb.lt
    have lob := hob.lt
    have HAT2 := hid hat
    have HOWN := hid hown
    have HOW := hid hown0
    have HQ := hid hQ
    have HPL := hid hPL
    have HOBB := hid hob
    have hnq2 : ∀ w2, Fr Q W w2 → Blk w2 OB #[.slice a PL c] 27 := fun w2 hf => hob.fr hf hnq
    have HNQ := hid hnq2
    clear hat hown hown0 hQ hPL hdb hob hnq2
    have skip : keepD (x1, x2, x3) = false → ∃ L', At (SRp SB) w R st (Lx ++ L') W ∧ Coll OB (boxes (BM + 1) BM SB al l.length cl) bareD (pre ++ [(x1, x2, x3)]) L' := fun hkd => by
      refine ⟨_, At.less HAT2.out ((List.sublist_cons_self _ _).append_left Lx), a, c, Lr, ?_, hlr, ?_⟩
      · rw [bareD_no pre hkd]
      · rw [bareD_no pre hkd]; exact HOWN.out
    have HSK := hid skip
    clear skip
    by_cases hx1 : x1 = 1
    · have hx1b : (x1 == 1) = true := by simpa using hx1
      have HE1 := hid (show bareD (pre ++ [(x1, x2, x3)]) = bareD pre ++ [(x1, x2)] from bareD_yes pre (by simp [keepD, hx1b]))
      clear hx1
      gi_wp2_with (gi_at_builtin; refine wpListIn_append_Own _ rfl (.tmp 32) (.tmp 34) 27 rfl 41 i0 (.agg #[.int .i64 0, .int .i64 0]) 2 16 Try.underlying27 hi0 hz0 hz1 hz2 rfl (by decide) Q (fun _ => True) a PL c (dosC (bareD pre)) rfl ?own (some ⟨W.heap.size, 0, none⟩) 1 1 (dosC [(x1, x2)]) rfl ?vw ?one ?b1 ?b2 ?grow)
      case own => exact HOW.out.fr (S := fun _ => False) (by (with_reducible repeat' (first | exact Fr.refl _ _ | apply Fr.alloc | apply Fr.drew | apply Fr.drewN | refine Fr.setCell ?_ ?_ _))) (fun _ _ h => h)
      case vw => exact Vw.of_blk (sz := 2) (n := 1) (R := fun _ => True) (Blk.new W #[.int .i64 x1, .int .i64 x2] 41) trivial rfl
      case one => intro u hu; simp [dosC] at hu; rcases hu with rfl | rfl <;> rfl
      case b1 => unfold maxLen; omega
      case b2 => omega
      case grow =>
        intro ao' cap' w3 ho3 hf3
        have hfw : Fr Q W w3 := (show Fr Q W _ by (with_reducible repeat' (first | exact Fr.refl _ _ | apply Fr.alloc | apply Fr.drew | apply Fr.drewN | refine Fr.setCell ?_ ?_ _))).trans hf3 (fun _ _ h => h)
        have hb3 := HNQ.out w3 hfw
        have o0 := hb3.cell 0
        have of0 := hb3.free 0
        have lob3 := hb3.lt
        have HB3 := hid hb3
        have HFW := hid hfw
        have HO3 := hid ho3
        clear hb3 hfw ho3 hf3
        gi_wp2
        have hfs : Fr (fun z => z = OB) w3 (w3.setCell ⟨OB, 0, none⟩ (.slice ao' (PL + 1) cap')) := Fr.setCell (S := fun z => z = OB) (Fr.refl _ _) (fun _ => rfl) _
        have ho9 := HO3.out.fr hfs (fun z hz e => by
          subst e
          rcases hz with h | h
          · exact hnq h
          · (try simp at h); omega)
        obtain ⟨Lr', hl9, hL9, hown9⟩ := own_rowO ho9
        have e1 : bareD (pre ++ [(x1, x2, x3)]) = bareD pre ++ [(x1, x2)] := HE1.out
        have e2 : dosC (bareD pre ++ [(x1, x2)]) = dosC (bareD pre) ++ dosC [(x1, x2)] := by simp [dosC]
        refine ⟨(OB, .cells #[.slice ao' (bareD (pre ++ [(x1, x2, x3)])).length cap'] 27 (0, 0)) :: (boxes (BM + 1) BM SB al l.length cl ++ Lr'), ?_, ao', cap', Lr', rfl, hl9, ?_⟩
        · refine coll_end (srp_ok SB) HAT2.out (W' := w3.setCell ⟨OB, 0, none⟩ (.slice ao' (PL + 1) cap')) ?_ ?_ hl9 (fun e he => ?_)
          · exact (HFW.out.mono (fun z _ h => .inr (by rw [HQ.out] at h; exact h))).trans hfs (fun z _ h => .inl h)
          · rw [e1, List.length_append, ← HPL.out]
            exact Blk.set HB3.out 0 _
          · obtain ⟨h1, h2⟩ := hL9 e he
            refine ⟨h1, ?_⟩
            rcases h2 with h2 | h2
            · left; rw [HQ.out] at h2; exact h2
            · right; (try simp at h2); omega
        · rw [e1, e2, List.length_append, ← HPL.out]
          exact hown9
    · have hx1b : (x1 == 1) = false := by simpa using hx1
      by_cases hx0 : x1 = 0
      · have hx0b : (x1 == 0) = true := by simpa using hx0
        clear hx0 hx1
        cases x3 with
        | false =>
          have HE1 := hid (show bareD (pre ++ [(x1, x2, false)]) = bareD pre ++ [(x1, x2)] from bareD_yes pre (by simp [keepD, hx0b]))
          gi_wp2_with (gi_at_builtin; refine wpListIn_append_Own _ rfl (.tmp 32) (.tmp 34) 27 rfl 41 i0 (.agg #[.int .i64 0, .int .i64 0]) 2 16 Try.underlying27 hi0 hz0 hz1 hz2 rfl (by decide) Q (fun _ => True) a PL c (dosC (bareD pre)) rfl ?own (some ⟨W.heap.size, 0, none⟩) 1 1 (dosC [(x1, x2)]) rfl ?vw ?one ?b1 ?b2 ?grow)
          case own => exact HOW.out.fr (S := fun _ => False) (by (with_reducible repeat' (first | exact Fr.refl _ _ | apply Fr.alloc | apply Fr.drew | apply Fr.drewN | refine Fr.setCell ?_ ?_ _))) (fun _ _ h => h)
          case vw => exact Vw.of_blk (sz := 2) (n := 1) (R := fun _ => True) (Blk.new W #[.int .i64 x1, .int .i64 x2] 41) trivial rfl
          case one => intro u hu; simp [dosC] at hu; rcases hu with rfl | rfl <;> rfl
          case b1 => unfold maxLen; omega
          case b2 => omega
          case grow =>
            intro ao' cap' w3 ho3 hf3
            have hfw : Fr Q W w3 := (show Fr Q W _ by (with_reducible repeat' (first | exact Fr.refl _ _ | apply Fr.alloc | apply Fr.drew | apply Fr.drewN | refine Fr.setCell ?_ ?_ _))).trans hf3 (fun _ _ h => h)
            have hb3 := HNQ.out w3 hfw
            have o0 := hb3.cell 0
            have of0 := hb3.free 0
            have lob3 := hb3.lt
            have HB3 := hid hb3
            have HFW := hid hfw
            have HO3 := hid ho3
            clear hb3 hfw ho3 hf3
            gi_wp2
            have hfs : Fr (fun z => z = OB) w3 (w3.setCell ⟨OB, 0, none⟩ (.slice ao' (PL + 1) cap')) := Fr.setCell (S := fun z => z = OB) (Fr.refl _ _) (fun _ => rfl) _
            have ho9 := HO3.out.fr hfs (fun z hz e => by
              subst e
              rcases hz with h | h
              · exact hnq h
              · (try simp at h); omega)
            obtain ⟨Lr', hl9, hL9, hown9⟩ := own_rowO ho9
            have e1 : bareD (pre ++ [(x1, x2, false)]) = bareD pre ++ [(x1, x2)] := HE1.out
            have e2 : dosC (bareD pre ++ [(x1, x2)]) = dosC (bareD pre) ++ dosC [(x1, x2)] := by simp [dosC]
            refine ⟨(OB, .cells #[.slice ao' (bareD (pre ++ [(x1, x2, false)])).length cap'] 27 (0, 0)) :: (boxes (BM + 1) BM SB al l.length cl ++ Lr'), ?_, ao', cap', Lr', rfl, hl9, ?_⟩
            · refine coll_end (srp_ok SB) HAT2.out (W' := w3.setCell ⟨OB, 0, none⟩ (.slice ao' (PL + 1) cap')) ?_ ?_ hl9 (fun e he => ?_)
              · exact (HFW.out.mono (fun z _ h => .inr (by rw [HQ.out] at h; exact h))).trans hfs (fun z _ h => .inl h)
              · rw [e1, List.length_append, ← HPL.out]
                exact Blk.set HB3.out 0 _
              · obtain ⟨h1, h2⟩ := hL9 e he
                refine ⟨h1, ?_⟩
                rcases h2 with h2 | h2
                · left; rw [HQ.out] at h2; exact h2
                · right; (try simp at h2); omega
            · rw [e1, e2, List.length_append, ← HPL.out]
              exact hown9
        | true =>
          gi_wp2
          exact HSK.out (by simp [keepD, hx1b])
      · have hx0b : (x1 == 0) = false := by simpa using hx0
        clear hx0 hx1
        gi_wp2
        exact HSK.out (by simp [keepD, hx1b, hx0b])
  case done =>
    rintro D0 R' L' W hat ⟨a, c, Lr, rfl, hlr, hown⟩
    have hK : W.heap[D0]? = some (.deferred (some [])) := (hat.keep _ (List.mem_cons_self ..)).1
    have hob : Blk W OB #[.slice a (bareD (runs s0 l).2).length c] 27 := (hat.keep _ (List.mem_cons_of_mem _ (List.mem_cons_self ..))).1
    have hmr : ∀ e ∈ Lr, e ∈ (D0, Obj.deferred (some [])) :: (OB, .cells #[.slice a (bareD (runs s0 l).2).length c] 27 (0, 0)) :: (boxes (BM + 1) BM SB al l.length cl ++ Lr) := fun e he => List.mem_cons_of_mem _ (List.mem_cons_of_mem _ (List.mem_append.2 (.inr he)))
    have hown0 := hown W (fun e he => (hat.keep e (hmr e he)).1)
    have hown1 : OwnAt (W.putObj D0 (.deferred none)) 41 2 (fun z => w.heap.size ≤ z) a (bareD (runs s0 l).2).length c (dosC (bareD (runs s0 l).2)) := by
      refine (hown0.fr (At.fr_put W D0 (.deferred none)) ?_).mono ?_
      · rintro z ⟨e, he, rfl⟩ e2
        have hn := hat.nodup
        simp only [List.map_cons, List.nodup_cons] at hn
        exact hn.1 (e2 ▸ List.mem_cons_of_mem _ (List.mem_map.2 ⟨e, List.mem_append.2 (.inr he), rfl⟩))
      · rintro z _ ⟨e, he, rfl⟩
        exact (hat.keep e (hmr e he)).2.2
    have hfd : Fr (fun _ => False) w (W.putObj D0 (.deferred none)) := hat.fr0.trans (At.fr_put W D0 _) (fun z hz e => by
      subst e
      have := (hat.keep _ (List.mem_cons_self ..)).2.2
      dsimp only at this; omega)
    have o0 := hob.cell 0
    have lob := hob.lt
    have HOW1 := hid hown1
    have HFD := hid hfd
    have HK := hid hK
    clear hK hob hmr hown0 hown1 hfd hown hat
    obtain ⟨out, hout⟩ : ∃ out, out = bareD (runs s0 l).2 := ⟨_, rfl⟩
    rw [← hout] at o0
    gi_wp2
    refine ⟨by simp, .inl ⟨_, _, rfl, run_takeDeferred HK.out, ?_⟩⟩
    subst hout
    exact ⟨_, results_tmp rfl _ _ _, a, c, rfl, HOW1.out, HFD.out⟩
end Go.Proofs.Ytbfeopakmjcapaa.Sp

/-
  Package erase on no machine: nothing is done, nothing is left.
-/
namespace Go.Proofs.Ytbfeopakmjcapaa.Sp
open Go.RowKit Go.Proofs.Ytbfeopakmjcapaa.Seq Go.Proofs.Ytbfeopakmjcapaa.Tso
attribute [local irreducible] wpStill wpList Calls CallsIn
attribute [local go_sem] Oper.semAt_some

abbrev NRp : Unit → (Nat → Prop) → World → Prop := fun _ R _ => ∀ z, ¬ R z
theorem nrp_ok : RepOk NRp := ⟨fun h _ _ => h, fun h z hz => (h z hz).elim⟩
def boxesN (BL BM : Nat) (a : Option Addr) (n c : Nat) : List (Nat × Obj) := [(BL, .cells #[.slice a n c] 27 (0, 0)), (BM, .cells #[.pointer none] 32 (0, 0))]

theorem done1_none (n : Nat) (hn : 3 ≤ n) (BL BM : Nat) (a : Option Addr) (c : Nat) (l : List (Int × Int)) (w0 : World) (hlen : l.length ≤ 100000)
    (hdos : ∀ (R : Nat → Prop) (st : Unit) (L : List (Nat × Obj)) (W : World), At NRp w0 R st L W → (∀ b ∈ boxesN BL BM a l.length c, b ∈ L) → Vw W 2 (fun _ => True) a l.length (dosC l)) :
    IterRuns Fence.wide n Try.prog 66 #[.pointer (some ⟨BL, 0, none⟩), .pointer (some ⟨BM, 0, none⟩)] didV NRp (boxesN BL BM a l.length c) w0 () () [] := by
  intro l0 K R L W hat hK hKb _
  have HKB := hid hKb
  have HAT := hid hat
  have HK := hid hK
  have HD := hid hdos
  have hm1 : (BL, Obj.cells #[.slice a l.length c] 27 (0, 0)) ∈ boxesN BL BM a l.length c := by simp [boxesN]
  have hm2 : (BM, Obj.cells #[.pointer none] 32 (0, 0)) ∈ boxesN BL BM a l.length c := by simp [boxesN]
  have HM1 := hid hm1
  have HM2 := hid hm2
  have hb1 : Blk W BL #[.slice a l.length c] 27 := (hat.keep _ (hKb _ _ hK _ hm1)).1
  have b1 := hb1.cell 0
  have lb1 := hb1.lt
  obtain ⟨LL, hLL⟩ : ∃ LL, LL = l.length := ⟨_, rfl⟩
  have HLL := hid hLL
  clear hb1 hat hK hKb hdos hm1 hm2
  refine callsIn_of_wp Try.func66 rfl trivial ?_ rfl
  simp only [Try.ntmps66, List.size_toArray, List.length_cons, List.length_nil, Nat.reduceAdd, Nat.reduceSub, Array.replicate_succ, Array.replicate_zero, List.push_toArray, List.append_toArray, List.nil_append, List.cons_append]
  gi_wp2
  gi_loopw [11] (fun i wr => ∃ (k : Nat), k ≤ LL ∧ i = .int .i64 k ∧ At NRp w0 R () L wr) (fun i _ => LL - (intOf i).toNat)
  case atStart => exact ⟨0, Nat.zero_le _, rfl, HAT.out⟩
  case round =>
    obtain ⟨k, hk, rfl, hat⟩ := hrel
    have HAT1 := hid hat
    have hb2 : Blk wr BM #[.pointer none] 32 := (hat.keep _ (HKB.out _ _ HK.out _ HM2.out)).1
    have bm := hb2.cell 0
    have lbm := hb2.lt
    by_cases hlt : k < LL
    · have hkl : k < l.length := by have := HLL.out; omega
      have hne : dosC l ≠ [] := fun h => by have := congrArg List.length h; rw [dosC_length] at this; simp only [List.length_nil] at this; omega
      obtain ⟨r0, off0, ha, hr0, hcell⟩ := (HD.out R _ L wr hat (fun b hb => HKB.out _ _ HK.out b hb)).cell hne
      have c0 : wr.cell? ⟨r0, off0 + k * 2, none⟩ = some (.int .i64 l[k].1) := hcell (k * 2) _ (dosC_get l k hkl).1
      have c1 : wr.cell? ⟨r0, off0 + k * 2 + 1, none⟩ = some (.int .i64 l[k].2) := hcell (k * 2 + 1) _ (dosC_get l k hkl).2
      clear hat hcell hne HAT hb2
      generalize l[k] = d at *
      obtain ⟨kind, who⟩ := d
      dsimp only at c0 c1
      subst ha
      gi_wp2
      refine ⟨trivial, fun h => (by cases h), ?_⟩
      refine Calls.namedIn fun wc hwc => ?_
      have hfc : Fr (fun _ => False) wr wc := by rw [hwc]; (with_reducible repeat' (first | exact Fr.refl _ _ | apply Fr.alloc | apply Fr.drew | apply Fr.drewN | refine Fr.setCell ?_ ?_ _))
      have hxd : Blk wc wr.heap.size #[.int .i64 kind, .int .i64 who] 41 := by rw [hwc]; (repeat (first | exact Blk.new wr _ _ | with_reducible apply Blk.drew))
      refine (callsIn_wide.2 (count_none who wc)).mono ?_
      rintro e' w3 ⟨rfl, hf3⟩
      have hx3 := hxd.fr hf3 (fun h => h)
      have d0 := hx3.cell 0
      have d1 := hx3.cell 1
      have ld := hx3.lt
      have hf13 := hfc.trans hf3 (fun _ _ h => h)
      have bm3 := hf13.cell bm (fun h => h)
      have HX3 := hid hx3
      have HF3 := hid hf13
      clear hwc hfc hxd hf3 hx3 hf13 c0 c1 bm b1
      gi_wp2
      refine ⟨trivial, fun h => (by cases h), ?_⟩
      refine Calls.namedIn fun wd hwd => ?_
      have hfd : Fr (fun _ => False) w3 wd := by rw [hwd]; (with_reducible repeat' (first | exact Fr.refl _ _ | apply Fr.alloc | apply Fr.drew | apply Fr.drewN | refine Fr.setCell ?_ ?_ _))
      refine (callsIn_wide.2 (do_none kind who wd)).mono ?_
      rintro e' w4 ⟨rfl, hf4⟩
      have hat4 := ((HAT1.out.fr nrp_ok HF3.out).fr nrp_ok hfd).fr nrp_ok hf4
      have hx4 := (HX3.out.fr hfd (fun h => h)).fr hf4 (fun h => h)
      have d0 := hx4.cell 0
      have d1 := hx4.cell 1
      have ld := hx4.lt
      have HAT4 := hid hat4
      dsimp only [leakV, none_]
      clear hwd hfd hf4 hat4 hx4 HAT1 HX3 HF3 bm3
      gi_wp2
      refine ⟨fun _ h => (by cases h), ?_⟩
      gi_wp2
      go_roundw
      case rel => exact ⟨k + 1, by omega, by go_num, HAT4.out.fr nrp_ok (by (with_reducible repeat' (first | exact Fr.refl _ _ | apply Fr.alloc | apply Fr.drew | apply Fr.drewN | refine Fr.setCell ?_ ?_ _)))⟩
      case measure => simp [intOf]; omega
    · obtain rfl : k = LL := by omega
      have HA9 := hid hat
      clear hat hb2 HAT1 HAT
      gi_wp2
      go_end0
      exact ⟨⟨_, rfl⟩, R, L, HA9.out.fr nrp_ok (by (with_reducible repeat' (first | exact Fr.refl _ _ | apply Fr.alloc | apply Fr.drew | apply Fr.drewN | refine Fr.setCell ?_ ?_ _))), HK.out⟩

theorem list_none (Rc Rm : Nat → Prop) (ao am aa al : Option Addr) (co cm an ac cl : Nat) (qs : List ((Option Addr × Nat) × List Ins)) (words locks : Nat) (room window : Int) (mem : List Int) (l : List (Int × Int)) (w : World) (hc : Codes w Rc ao qs) (hm : Vw w 1 Rm am mem.length (ints mem)) (hmn : am = none → mem.length = 0)
    (hq : qs.length ≤ 1000) (hl : mem.length ≤ 100000) (hi : ∀ q ∈ qs, q.2.length ≤ 100000) (hw : words ≤ 65536) (hlk : locks ≤ 8) (hbad : (room < 1 ∨ 1000 < room) ∨ (window < 1 ∨ 64 < window))
    (hll : l.length ≤ 1000) (hd : Vw w 2 (fun _ => True) al l.length (dosC l)) :
    Calls Try.prog 21 #[.agg #[.slice ao qs.length co, .slice aa an ac, .int .i64 (words : Int), .int .i64 (locks : Int)], .slice am mem.length cm, .agg #[.int .i64 room, .int .i64 window], .slice al l.length cl] w fun e w' =>
      e = .returned (.slice none 0 0) ∧ Fr (fun _ => False) w w' := by
  have HC := hid hc
  have HM := hid hm
  have HMN := hid hmn
  have HI := hid hi
  have HD := hid hd
  obtain ⟨QL, hQL⟩ : ∃ QL, QL = qs.length := ⟨_, rfl⟩
  have HQL := hid hQL
  rw [← hQL] at hq ⊢
  obtain ⟨ML, hML⟩ : ∃ ML, ML = mem.length := ⟨_, rfl⟩
  have HML := hid hML
  rw [← hML] at hl ⊢
  obtain ⟨LL, hLL⟩ : ∃ LL, LL = l.length := ⟨_, rfl⟩
  have HLL := hid hLL
  rw [← hLL] at hll ⊢
  clear hc hm hmn hi hd hQL hML hLL
  refine (callsIn_wide (n := 6)).1 ?_
  refine callsIn_of_wp_marks Try.func21 rfl trivial ?_ rfl
  simp only [Try.ntmps21, List.size_toArray, List.length_cons, List.length_nil, Nat.reduceAdd, Nat.reduceSub, Array.replicate_succ, Array.replicate_zero, List.push_toArray, List.append_toArray, List.nil_append, List.cons_append]
  gi_wp2
  refine ⟨trivial, ?_⟩
  refine Calls.namedIn fun wc hwc => ?_
  have hfc : Fr (fun _ => False) w wc := by rw [hwc]; (with_reducible repeat' (first | exact Fr.refl _ _ | apply Fr.alloc | apply Fr.drew | apply Fr.drewN | refine Fr.setCell ?_ ?_ _))
  have hob : Blk wc (w.heap.size + 2) #[.slice none 0 0] 27 := by rw [hwc]; (repeat (first | exact Blk.new' (by simp) | with_reducible apply Blk.drew | with_reducible apply Blk.alloc))
  rw [HQL.out, HML.out]
  refine (callsIn_wide.2 (snew_none Rc Rm ao am aa co cm an ac qs words locks room window mem wc (HC.out.fr hfc (fun _ _ h => h)) (HM.out.fr hfc (fun _ _ h => h)) HMN.out (by have := HQL.out; omega) (by have := HML.out; omega) HI.out hw hlk hbad)).mono ?_
  rintro e w1 ⟨rfl, hf1⟩
  have hwc2 : wc.heap.size = w.heap.size + 3 := by rw [hwc]; simp
  have hob1 := hob.fr hf1 (fun h => h)
  have HF1 := hid (hfc.trans hf1 (fun _ _ h => h))
  have HOB1 := hid hob1
  rw [← HQL.out, ← HML.out]
  clear hwc hfc hob hob1
  gi_wp2
  refine ⟨trivial, ?_⟩
  refine Calls.namedIn fun wd hwd => ?_
  have hfd : Fr (fun _ => False) w1 wd := by rw [hwd]; (with_reducible repeat' (first | exact Fr.refl _ _ | apply Fr.alloc | apply Fr.drew | apply Fr.drewN | refine Fr.setCell ?_ ?_ _))
  refine (callsIn_wide.2 (done_is _ al LL cl wd)).mono ?_
  rintro e w2 ⟨rfl, hbm, hbl, hf2⟩
  have hsz1 := HF1.out.size
  have hlob := HOB1.out.lt
  have hob2 := (HOB1.out.fr hfd (fun h => h)).fr hf2 (fun h => h)
  have hszd : w1.heap.size ≤ wd.heap.size := hfd.size
  obtain ⟨BM, hBM⟩ : ∃ BM, BM = wd.heap.size := ⟨_, rfl⟩
  obtain ⟨OB, hOB⟩ : ∃ OB, OB = w.heap.size + 2 := ⟨_, rfl⟩
  rw [← hBM] at hbm hbl
  rw [← hOB] at hob2
  have hat : At NRp w (fun _ => False) () ((OB, .cells #[.slice none 0 0] 27 (0, 0)) :: (boxesN (BM + 1) BM al LL cl)) w2 := by
    refine ⟨fun _ h => h, ?_, ?_, (HF1.out.trans hfd (fun _ _ h => h)).trans hf2 (fun _ _ h => h), fun _ h => h.elim⟩
    · intro e he
      simp only [boxesN, List.mem_cons, List.not_mem_nil, or_false] at he
      rcases he with rfl | rfl | rfl
      · exact ⟨hob2, fun h => h, by dsimp only; omega⟩
      · exact ⟨hbl, fun h => h, by dsimp only; omega⟩
      · exact ⟨hbm, fun h => h, by dsimp only; omega⟩
    · simp [boxesN]
      omega
  have HAT := hid hat
  rw [← hBM]
  have hOB2 : w.heap.size + 1 + 1 = OB := by omega
  have HOBE := hid hOB2
  clear hbm hbl hf2 hfd hwd hob2 hat hBM hsz1 hlob hszd HOB1 HF1 hOB hwc2
  gi_wp2
  have hle := HLL.out
  subst hle
  refine wpIn_rangeFunc_at (F := Fence.wide) rfl (by omega) (gf := 66) (lb := #[.pointer (some ⟨BM + 1, 0, none⟩), .pointer (some ⟨BM, 0, none⟩)]) rfl trivial (enters_of Try.func66 (by kernel_rfl) rfl) nrp_ok
    (done1_none 5 (by omega) (BM + 1) BM al cl l w (by omega) ?dos) (fun x => rfl) HAT.out (fun pre L => pre = [] ∧ L = (OB, .cells #[.slice none 0 0] 27 (0, 0)) :: boxesN (BM + 1) BM al l.length cl) ?start ?bxs
    (fun _ _ _ _ => False) ?assign ?body ?done
  case dos => exact fun R st L W hat _ => HD.out.fr hat.fr0 (fun _ _ h => h)
  case start => exact ⟨rfl, rfl⟩
  case bxs =>
    rintro pre L ⟨_, rfl⟩ b hb
    exact List.mem_cons_of_mem _ hb
  case assign =>
    intro l0 pre x R st Lx L W hpre hat hK
    have := hpre.length_le
    simp at this
  case body =>
    rintro l0 pre x R st Lx L' a' W hpre hat h
    exact h.elim
  case done =>
    rintro D0 R' L' W hat ⟨_, rfl⟩
    have hK : W.heap[D0]? = some (.deferred (some [])) := (hat.keep _ (List.mem_cons_self ..)).1
    have hob : Blk W OB #[.slice none 0 0] 27 := (hat.keep _ (List.mem_cons_of_mem _ (List.mem_cons_self ..))).1
    have hfd : Fr (fun _ => False) w (W.putObj D0 (.deferred none)) := hat.fr0.trans (At.fr_put W D0 _) (fun z hz e => by
      subst e
      have := (hat.keep _ (List.mem_cons_self ..)).2.2
      dsimp only at this; omega)
    have o0 := hob.cell 0
    have lob := hob.lt
    have HFD := hid hfd
    have HK := hid hK
    clear hK hob hfd hat
    gi_wp2
    refine ⟨by simp, .inl ⟨_, _, rfl, run_takeDeferred HK.out, ?_⟩⟩
    exact ⟨_, results_tmp rfl _ _ _, rfl, HFD.out⟩

theorem legal_none (Rc Rm : Nat → Prop) (ao am aa al : Option Addr) (co cm an ac cl : Nat) (qs : List ((Option Addr × Nat) × List Ins)) (words locks : Nat) (room window : Int) (mem : List Int) (l : List (Int × Int)) (w : World) (hc : Codes w Rc ao qs) (hm : Vw w 1 Rm am mem.length (ints mem)) (hmn : am = none → mem.length = 0)
    (hq : qs.length ≤ 1000) (hl : mem.length ≤ 100000) (hi : ∀ q ∈ qs, q.2.length ≤ 100000) (hw : words ≤ 65536) (hlk : locks ≤ 8) (hbad : (room < 1 ∨ 1000 < room) ∨ (window < 1 ∨ 64 < window))
    (hll : l.length ≤ 1000) (hd : Vw w 2 (fun _ => True) al l.length (dosC l)) :
    Calls Try.prog 22 #[.agg #[.slice ao qs.length co, .slice aa an ac, .int .i64 (words : Int), .int .i64 (locks : Int)], .slice am mem.length cm, .agg #[.int .i64 room, .int .i64 window], .slice al l.length cl] w fun e w' =>
      e = .returned (.slice none 0 0) ∧ Fr (fun _ => False) w w' := by
  have HC := hid hc
  have HM := hid hm
  have HMN := hid hmn
  have HI := hid hi
  have HD := hid hd
  obtain ⟨QL, hQL⟩ : ∃ QL, QL = qs.length := ⟨_, rfl⟩
  have HQL := hid hQL
  rw [← hQL] at hq ⊢
  obtain ⟨ML, hML⟩ : ∃ ML, ML = mem.length := ⟨_, rfl⟩
  have HML := hid hML
  rw [← hML] at hl ⊢
  obtain ⟨LL, hLL⟩ : ∃ LL, LL = l.length := ⟨_, rfl⟩
  have HLL := hid hLL
  rw [← hLL] at hll ⊢
  clear hc hm hmn hi hd hQL hML hLL
  refine (callsIn_wide (n := 6)).1 ?_
  refine callsIn_of_wp_marks Try.func22 rfl trivial ?_ rfl
  simp only [Try.ntmps22, List.size_toArray, List.length_cons, List.length_nil, Nat.reduceAdd, Nat.reduceSub, Array.replicate_succ, Array.replicate_zero, List.push_toArray, List.append_toArray, List.nil_append, List.cons_append]
  gi_wp2
  refine ⟨trivial, ?_⟩
  refine Calls.namedIn fun wc hwc => ?_
  have hfc : Fr (fun _ => False) w wc := by rw [hwc]; (with_reducible repeat' (first | exact Fr.refl _ _ | apply Fr.alloc | apply Fr.drew | apply Fr.drewN | refine Fr.setCell ?_ ?_ _))
  have hob : Blk wc (w.heap.size + 2) #[.slice none 0 0] 27 := by rw [hwc]; (repeat (first | exact Blk.new' (by simp) | with_reducible apply Blk.drew | with_reducible apply Blk.alloc))
  rw [HQL.out, HML.out]
  refine (callsIn_wide.2 (snew_none Rc Rm ao am aa co cm an ac qs words locks room window mem wc (HC.out.fr hfc (fun _ _ h => h)) (HM.out.fr hfc (fun _ _ h => h)) HMN.out (by have := HQL.out; omega) (by have := HML.out; omega) HI.out hw hlk hbad)).mono ?_
  rintro e w1 ⟨rfl, hf1⟩
  have hwc2 : wc.heap.size = w.heap.size + 3 := by rw [hwc]; simp
  have hob1 := hob.fr hf1 (fun h => h)
  have HF1 := hid (hfc.trans hf1 (fun _ _ h => h))
  have HOB1 := hid hob1
  rw [← HQL.out, ← HML.out]
  clear hwc hfc hob hob1
  gi_wp2
  refine ⟨trivial, ?_⟩
  refine Calls.namedIn fun wd hwd => ?_
  have hfd : Fr (fun _ => False) w1 wd := by rw [hwd]; (with_reducible repeat' (first | exact Fr.refl _ _ | apply Fr.alloc | apply Fr.drew | apply Fr.drewN | refine Fr.setCell ?_ ?_ _))
  refine (callsIn_wide.2 (done_is _ al LL cl wd)).mono ?_
  rintro e w2 ⟨rfl, hbm, hbl, hf2⟩
  have hsz1 := HF1.out.size
  have hlob := HOB1.out.lt
  have hob2 := (HOB1.out.fr hfd (fun h => h)).fr hf2 (fun h => h)
  have hszd : w1.heap.size ≤ wd.heap.size := hfd.size
  obtain ⟨BM, hBM⟩ : ∃ BM, BM = wd.heap.size := ⟨_, rfl⟩
  obtain ⟨OB, hOB⟩ : ∃ OB, OB = w.heap.size + 2 := ⟨_, rfl⟩
  rw [← hBM] at hbm hbl
  rw [← hOB] at hob2
  have hat : At NRp w (fun _ => False) () ((OB, .cells #[.slice none 0 0] 27 (0, 0)) :: (boxesN (BM + 1) BM al LL cl)) w2 := by
    refine ⟨fun _ h => h, ?_, ?_, (HF1.out.trans hfd (fun _ _ h => h)).trans hf2 (fun _ _ h => h), fun _ h => h.elim⟩
    · intro e he
      simp only [boxesN, List.mem_cons, List.not_mem_nil, or_false] at he
      rcases he with rfl | rfl | rfl
      · exact ⟨hob2, fun h => h, by dsimp only; omega⟩
      · exact ⟨hbl, fun h => h, by dsimp only; omega⟩
      · exact ⟨hbm, fun h => h, by dsimp only; omega⟩
    · simp [boxesN]
      omega
  have HAT := hid hat
  rw [← hBM]
  have hOB2 : w.heap.size + 1 + 1 = OB := by omega
  have HOBE := hid hOB2
  clear hbm hbl hf2 hfd hwd hob2 hat hBM hsz1 hlob hszd HOB1 HF1 hOB hwc2
  gi_wp2
  have hle := HLL.out
  subst hle
  refine wpIn_rangeFunc_at (F := Fence.wide) rfl (by omega) (gf := 66) (lb := #[.pointer (some ⟨BM + 1, 0, none⟩), .pointer (some ⟨BM, 0, none⟩)]) rfl trivial (enters_of Try.func66 (by kernel_rfl) rfl) nrp_ok
    (done1_none 5 (by omega) (BM + 1) BM al cl l w (by omega) ?dos) (fun x => rfl) HAT.out (fun pre L => pre = [] ∧ L = (OB, .cells #[.slice none 0 0] 27 (0, 0)) :: boxesN (BM + 1) BM al l.length cl) ?start ?bxs
    (fun _ _ _ _ => False) ?assign ?body ?done
  case dos => exact fun R st L W hat _ => HD.out.fr hat.fr0 (fun _ _ h => h)
  case start => exact ⟨rfl, rfl⟩
  case bxs =>
    rintro pre L ⟨_, rfl⟩ b hb
    exact List.mem_cons_of_mem _ hb
  case assign =>
    intro l0 pre x R st Lx L W hpre hat hK
    have := hpre.length_le
    simp at this
  case body =>
    rintro l0 pre x R st Lx L' a' W hpre hat h
    exact h.elim
  case done =>
    rintro D0 R' L' W hat ⟨_, rfl⟩
    have hK : W.heap[D0]? = some (.deferred (some [])) := (hat.keep _ (List.mem_cons_self ..)).1
    have hob : Blk W OB #[.slice none 0 0] 27 := (hat.keep _ (List.mem_cons_of_mem _ (List.mem_cons_self ..))).1
    have hfd : Fr (fun _ => False) w (W.putObj D0 (.deferred none)) := hat.fr0.trans (At.fr_put W D0 _) (fun z hz e => by
      subst e
      have := (hat.keep _ (List.mem_cons_self ..)).2.2
      dsimp only at this; omega)
    have o0 := hob.cell 0
    have lob := hob.lt
    have HFD := hid hfd
    have HK := hid hK
    clear hK hob hfd hat
    gi_wp2
    refine ⟨by simp, .inl ⟨_, _, rfl, run_takeDeferred HK.out, ?_⟩⟩
    exact ⟨_, results_tmp rfl _ _ _, rfl, HFD.out⟩
end Go.Proofs.Ytbfeopakmjcapaa.Sp
