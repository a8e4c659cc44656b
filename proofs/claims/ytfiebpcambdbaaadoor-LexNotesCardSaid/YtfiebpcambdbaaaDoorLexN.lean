/-
  What lex.next answers: the word that a text begins with, or its error.
-/
import Derived.Test.YtfiebpcambdbaaaDoorLexH
import Derived.Test.YtfiebpcambdbaaaDoorArms
set_option linter.unusedVariables false
set_option linter.unusedSimpArgs false
set_option maxHeartbeats 4000000
set_option maxRecDepth 8000
namespace Go.Proofs.YtfiebpcambdbaaaDoor
open Go.RowKit Go.Shelf Go.Proofs.YtfiebpcambdbaaaDoor.Lex
attribute [local irreducible] wpStill wpList Calls CallsIn

/-- A word's value; another one's error. -/
def nextV : Except Int (Int × B × Int) → Value
  | .error e => .tuple #[.agg #[.int .i64 0, .string ⟨#[]⟩, .int .i64 0, .int .i64 0], .int .i64 e]
  | .ok (k, t, n) => .tuple #[.agg #[.int .i64 k, .string ⟨t.toArray⟩, .int .i64 n, .int .i64 0], .int .i64 0]

theorem zWD : (Tryd.prog.info? 37).map (fun i => (i.zero, i.size)) = some (some (.agg #[.int .i64 0, .string ⟨#[]⟩, .int .i64 0, .int .i64 0]), 4) := by kernel_rfl
theorem szWD : (Tryd.prog.info? 37).map (·.size) = some 4 := by kernel_rfl
theorem unWD : ∃ d, Tryd.prog.underlying 37 = some d ∧ d.isRow = true := ⟨_, Tryd.underlying37, rfl⟩
theorem szTI : (Tryd.prog.info? 3).map (·.size) = some 1 := by kernel_rfl
theorem szTI64 : (Tryd.prog.info? 2).map (·.size) = some 1 := by kernel_rfl
theorem szTSTR : (Tryd.prog.info? 9).map (·.size) = some 1 := by kernel_rfl

theorem next_is (s : B) (w : World) (hs : s.length ≤ 1000000) (ht : Tabs w) :
    Calls Tryd.prog 19 #[.string ⟨s.toArray⟩] w fun e w' => e = .returned (nextV (nextB s)) ∧ Fr (fun _ => False) w w' := by
  obtain ⟨r, hr⟩ : ∃ r, r = nextB s := ⟨_, rfl⟩
  rw [← hr]
  have HT := hid ht
  have htk := runN_take s
  have hle := runN_le s
  have hsl : (s.takeWhile alnum).length ≤ 1000000 := by have := (takeWhile_prefix alnum s).length_le; omega
  have HRUN := hid (fun w => run_is s w hs)
  have HSG := hid (fun w ht => sign_is s w hs ht)
  have hres := fun (C : Array Value) (hC : C.size = 4) (tmps : Array Value) (w : World) (b : Nat) (ha : tmps.getD 2 undef = .pointer (some ⟨b, 0, none⟩)) (hb : Blk w b C 37) => results_ct (P := Tryd.prog) Tryd.results19 ha hb unWD.choose_spec.1 unWD.choose_spec.2 (by rw [hC]; exact szWD)
  have HRES := hid hres
  obtain ⟨sv, hsv⟩ : ∃ sv : ByteArray, sv = ⟨s.toArray⟩ := ⟨_, rfl⟩
  rw [← hsv] at HRUN HSG ⊢
  have hsz : sv.size = s.length := by rw [hsv]; exact mk_size s
  have hex : sv.extract 0 (runN s) = ⟨(s.takeWhile alnum).toArray⟩ := by rw [hsv, mk_take, htk]
  have h1 : (runN s : Int) ≤ sv.size := by omega
  have h0 : ∀ c t, s.takeWhile alnum = c :: t → ∀ h, ((sv[0]'h).toNat : Int) = (c.toNat : Int) := fun c t e h => by
    subst hsv
    have hp := takeWhile_prefix alnum s
    rw [e] at hp
    obtain ⟨u, rfl⟩ := hp
    rfl
  have HRL := hid (show runN s = (s.takeWhile alnum).length from rfl)
  unfold nextB at hr
  clear ht hs htk hsv hsz hle hres
  cases hw : s.takeWhile alnum with
  | nil =>
    have hn0 : runN s = 0 := by unfold runN; rw [hw]; rfl
    rw [hn0] at HRUN h1 hex
    rw [hw] at hr hex
    dsimp only at hr
    clear h0 hw hn0 HRL hsl h1 hex
    by_cases hg : sgB s = []
    · rw [if_pos hg] at hr
      subst hr
      rw [hg] at HSG
      unfold nextV
      clear hg
      go_enter Tryd.func19, Tryd.ntmps19
      go_wp2_with (first | ((with_reducible apply wpList_allocA (ty := 37) (dst := some 2) #[.int .i64 0, .string ⟨#[]⟩, .int .i64 0, .int .i64 0]); (case zai => exact zWD); (case zac => rfl); intro wa hb hf hs; have HBa := hid hb; have HFa := hid hf; clear hb hf hs) | (go_at_call 29; refine (HRUN.out _).mono ?_; rintro e w1 ⟨rfl, hf⟩; have HB1 := hid (HBa.out.fr hf (fun h => h)); have HF1 := hid (HFa.out.trans hf (fun _ _ h => h)); have q1 : w.heap.size < w1.heap.size := HB1.out.lt; clear hf HBa HFa) | ((with_reducible apply wpList_allocA (ty := 37) (dst := some 5) #[.int .i64 0, .string ⟨#[]⟩, .int .i64 0, .int .i64 0]); (case zai => exact zWD); (case zac => rfl); intro wb hb hf hs; have HBb := hid hb; have HB2 := hid (HB1.out.fr hf (fun h => h)); have HF2 := hid (HF1.out.trans hf (fun _ _ h => h)); clear hb hf hs HB1 HF1) | ((with_reducible apply wpList_storeA (b := w1.heap.size) (C := #[.int .i64 0, .string ⟨#[]⟩, .int .i64 0, .int .i64 0]) (cells := #[.int .i64 0, .string ⟨#[]⟩, .int .i64 0, .int .i64 0]) (T := 37)); (case zsx => rfl); (case zsy => rfl); (case zsn => rfl); (case zsi => exact szWD); (case zs1 => rfl); (case zsb => exact HBb.out); intro wc hb hf hs; have HBc := hid hb; have c1 := hb.cell 1; have lc := hb.lt; have HB3 := hid (HB2.out.fr hf (fun h => by have : w.heap.size = w1.heap.size := h; omega)); have HF3 := hid (HF2.out.trans hf (fun z hz e => by have : z = w1.heap.size := e; omega)); clear hb hf hs HB2 HF2 HBb) | (go_at_call 32; refine (HSG.out _ (HT.out.fr (by first | exact HF3.out | (repeat (first | exact HF3.out | with_reducible apply Fr.drew))))).mono ?_; rintro e w4 ⟨rfl, hf⟩; have HB4 := hid (HB3.out.fr hf (fun h => h)); have HC4 := hid (HBc.out.fr hf (fun h => h)); have HF4 := hid (HF3.out.trans hf (fun _ _ h => h)); clear hf HB3 HBc HF3 c1 lc) | ((with_reducible apply wpList_setA (b := w1.heap.size) (o := 0) (C := #[.int .i64 0, .string ⟨#[]⟩, .int .i64 0, .int .i64 0]) (v := .int .i64 2) (T := 37)); (case zcx => rfl); (case zcy => rfl); (case zcv => rfl); (case zc1 => rfl); (case zcn => simp); (case zci => exact szTI); (case zcb => exact HC4.out); intro w5 hb hf hs; have HC5 := hid (show Blk w5 w1.heap.size #[.int .i64 2, .string ⟨#[]⟩, .int .i64 0, .int .i64 0] 37 from hb); have HB5 := hid (HB4.out.fr hf (fun h => by have : w.heap.size = w1.heap.size := h; omega)); have HF5 := hid (HF4.out.trans hf (fun z hz e => by have : z = w1.heap.size := e; omega)); clear hb hf hs HC4 HB4 HF4) | ((with_reducible apply wpList_setA (b := w1.heap.size) (o := 1) (C := #[.int .i64 2, .string ⟨#[]⟩, .int .i64 0, .int .i64 0]) (v := .string ⟨#[]⟩) (T := 37)); (case zcx => rfl); (case zcy => rfl); (case zcv => rfl); (case zc1 => rfl); (case zcn => simp); (case zci => exact szTSTR); (case zcb => exact HC5.out); intro w6 hb hf hs; have HC6 := hid (show Blk w6 w1.heap.size #[.int .i64 2, .string ⟨#[]⟩, .int .i64 0, .int .i64 0] 37 from hb); have c1 := HC6.out.cell 1; have lc := HC6.out.lt; have HB6 := hid (HB5.out.fr hf (fun h => by have : w.heap.size = w1.heap.size := h; omega)); have HF6 := hid (HF5.out.trans hf (fun z hz e => by have : z = w1.heap.size := e; omega)); clear hb hf hs HC5 HB5 HF5) | ((with_reducible apply wpList_storeA (b := w.heap.size) (C := #[.int .i64 0, .string ⟨#[]⟩, .int .i64 0, .int .i64 0]) (cells := #[.int .i64 0, .string ⟨#[]⟩, .int .i64 0, .int .i64 0]) (T := 37)); (case zsx => rfl); (case zsy => rfl); (case zsn => rfl); (case zsi => exact szWD); (case zs1 => rfl); (case zsb => exact HB6.out); intro wz hb hf hs; have HBz := hid hb; have HFz := hid (HF6.out.trans hf (fun z hz e => by have : z = w.heap.size := e; omega)); clear hb hf hs) | still_step | (with_reducible first | refine wpStill_nil ?_ | refine Flow.Both.mk ?_ ?_ | exact True.intro) | (with_reducible refine Flow.same_mk rfl rfl rfl ?_; go_simp; done) | (with_reducible exact Flow.same_un rfl rfl rfl) | (refine Flow.region_still mixed ?hB ?_; (case hB => decide +kernel)))
      refine bodyPost_ret (HRES.out _ rfl _ _ _ rfl HBz.out) rfl ?_
      exact ⟨rfl, HFz.out⟩
    · rw [if_neg hg] at hr
      subst hr
      obtain ⟨G, hG⟩ : ∃ G : ByteArray, G = ⟨(sgB s).toArray⟩ := ⟨_, rfl⟩
      have hne : G.toList.isEmpty = false := by
        rw [Lib.toList_data, hG]
        cases e : sgB s with
        | nil => exact absurd e hg
        | cons => rfl
      rw [← hG] at HSG
      unfold nextV
      dsimp only
      rw [← hG]
      clear hG hg
      go_enter Tryd.func19, Tryd.ntmps19
      go_wp2_with (first | ((with_reducible apply wpList_allocA (ty := 37) (dst := some 2) #[.int .i64 0, .string ⟨#[]⟩, .int .i64 0, .int .i64 0]); (case zai => exact zWD); (case zac => rfl); intro wa hb hf hs; have HBa := hid hb; have HFa := hid hf; clear hb hf hs) | (go_at_call 29; refine (HRUN.out _).mono ?_; rintro e w1 ⟨rfl, hf⟩; have HB1 := hid (HBa.out.fr hf (fun h => h)); have HF1 := hid (HFa.out.trans hf (fun _ _ h => h)); have q1 : w.heap.size < w1.heap.size := HB1.out.lt; clear hf HBa HFa) | ((with_reducible apply wpList_allocA (ty := 37) (dst := some 5) #[.int .i64 0, .string ⟨#[]⟩, .int .i64 0, .int .i64 0]); (case zai => exact zWD); (case zac => rfl); intro wb hb hf hs; have HBb := hid hb; have HB2 := hid (HB1.out.fr hf (fun h => h)); have HF2 := hid (HF1.out.trans hf (fun _ _ h => h)); clear hb hf hs HB1 HF1) | ((with_reducible apply wpList_storeA (b := w1.heap.size) (C := #[.int .i64 0, .string ⟨#[]⟩, .int .i64 0, .int .i64 0]) (cells := #[.int .i64 0, .string ⟨#[]⟩, .int .i64 0, .int .i64 0]) (T := 37)); (case zsx => rfl); (case zsy => rfl); (case zsn => rfl); (case zsi => exact szWD); (case zs1 => rfl); (case zsb => exact HBb.out); intro wc hb hf hs; have HBc := hid hb; have c1 := hb.cell 1; have lc := hb.lt; have HB3 := hid (HB2.out.fr hf (fun h => by have : w.heap.size = w1.heap.size := h; omega)); have HF3 := hid (HF2.out.trans hf (fun z hz e => by have : z = w1.heap.size := e; omega)); clear hb hf hs HB2 HF2 HBb) | (go_at_call 32; refine (HSG.out _ (HT.out.fr (by first | exact HF3.out | (repeat (first | exact HF3.out | with_reducible apply Fr.drew))))).mono ?_; rintro e w4 ⟨rfl, hf⟩; have HB4 := hid (HB3.out.fr hf (fun h => h)); have HC4 := hid (HBc.out.fr hf (fun h => h)); have HF4 := hid (HF3.out.trans hf (fun _ _ h => h)); clear hf HB3 HBc HF3 c1 lc) | ((with_reducible apply wpList_setA (b := w1.heap.size) (o := 0) (C := #[.int .i64 0, .string ⟨#[]⟩, .int .i64 0, .int .i64 0]) (v := .int .i64 2) (T := 37)); (case zcx => rfl); (case zcy => rfl); (case zcv => rfl); (case zc1 => rfl); (case zcn => simp); (case zci => exact szTI); (case zcb => exact HC4.out); intro w5 hb hf hs; have HC5 := hid (show Blk w5 w1.heap.size #[.int .i64 2, .string ⟨#[]⟩, .int .i64 0, .int .i64 0] 37 from hb); have HB5 := hid (HB4.out.fr hf (fun h => by have : w.heap.size = w1.heap.size := h; omega)); have HF5 := hid (HF4.out.trans hf (fun z hz e => by have : z = w1.heap.size := e; omega)); clear hb hf hs HC4 HB4 HF4) | ((with_reducible apply wpList_setA (b := w1.heap.size) (o := 1) (C := #[.int .i64 2, .string ⟨#[]⟩, .int .i64 0, .int .i64 0]) (v := .string G) (T := 37)); (case zcx => rfl); (case zcy => rfl); (case zcv => rfl); (case zc1 => rfl); (case zcn => simp); (case zci => exact szTSTR); (case zcb => exact HC5.out); intro w6 hb hf hs; have HC6 := hid (show Blk w6 w1.heap.size #[.int .i64 2, .string G, .int .i64 0, .int .i64 0] 37 from hb); have c1 := HC6.out.cell 1; have lc := HC6.out.lt; have HB6 := hid (HB5.out.fr hf (fun h => by have : w.heap.size = w1.heap.size := h; omega)); have HF6 := hid (HF5.out.trans hf (fun z hz e => by have : z = w1.heap.size := e; omega)); clear hb hf hs HC5 HB5 HF5) | ((with_reducible apply wpList_loadA (b := w1.heap.size) (C := #[.int .i64 2, .string G, .int .i64 0, .int .i64 0]) (T := 37)); (case zlx => rfl); (case zlu => exact unWD.choose_spec.1); (case zld => exact unWD.choose_spec.2); (case zli => exact szWD); (case zlb => exact HC6.out)) | ((with_reducible apply wpList_storeA (b := w.heap.size) (C := #[.int .i64 0, .string ⟨#[]⟩, .int .i64 0, .int .i64 0]) (cells := #[.int .i64 2, .string G, .int .i64 0, .int .i64 0]) (T := 37)); (case zsx => rfl); (case zsy => rfl); (case zsn => rfl); (case zsi => exact szWD); (case zs1 => rfl); (case zsb => exact HB6.out); intro wz hb hf hs; have HBz := hid hb; have HFz := hid (HF6.out.trans hf (fun z hz e => by have : z = w.heap.size := e; omega)); clear hb hf hs) | still_step | (with_reducible first | refine wpStill_nil ?_ | refine Flow.Both.mk ?_ ?_ | exact True.intro) | (with_reducible refine Flow.same_mk rfl rfl rfl ?_; go_simp; done) | (with_reducible exact Flow.same_un rfl rfl rfl) | (refine Flow.region_still mixed ?hB ?_; (case hB => decide +kernel)))
      refine bodyPost_ret (HRES.out _ rfl _ _ _ rfl HBz.out) rfl ?_
      exact ⟨rfl, HFz.out⟩
  | cons c t =>
    have hn1 : 0 < runN s := by unfold runN; rw [hw]; simp
    have h0' := h0 c t hw
    rw [hw] at hr hex hsl
    have hl := HRL.out
    rw [hw] at hl
    dsimp only at hr
    have hNM := fun w ht => number_is ⟨(c :: t).toArray⟩ (by rw [mk_size]; exact hsl) w ht
    rw [show (ByteArray.data ⟨(c :: t).toArray⟩).toList = c :: t by simp] at hNM
    have HNM := hid hNM
    have hdg := digit_is (c.toNat : Int)
    rw [digitZ_of] at hdg
    have HDG := hid hdg
    obtain ⟨X, hX⟩ : ∃ X : ByteArray, X = ⟨(c :: t).toArray⟩ := ⟨_, rfl⟩
    rw [← hX] at hex HNM
    have HX := hid hX
    have hc255 : (c.toNat : Int) < 256 := by have := c.toNat_lt; omega
    have hwr : wrap32 (c.toNat : Int) = (c.toNat : Int) := by unfold wrap32; omega
    generalize (c.toNat : Int) = cn at *
    generalize hm : runN s = m at *
    have hsz0 : (0 : Int) < sv.size := by omega
    have hm0 : (0 : Int) < m := by omega
    clear hw h0 hX hNM hdg hsl hn1 HRL
    cases hd : digitB c with
    | true =>
      rw [hd] at HDG
      rw [if_pos hd] at hr
      obtain ⟨⟨NV, NB⟩, hq⟩ : ∃ q, q = numL (c :: t) := ⟨_, rfl⟩
      rw [← hq] at HNM hr
      dsimp only at hr HNM
      clear hq hl hd
      cases NB with
      | true =>
        rw [if_pos rfl] at hr
        subst hr
        unfold nextV
        dsimp only
        rw [← HX.out]
        go_enter Tryd.func19, Tryd.ntmps19
        go_wp2_with (first | ((with_reducible apply wpList_allocA (ty := 37) (dst := some 2) #[.int .i64 0, .string ⟨#[]⟩, .int .i64 0, .int .i64 0]); (case zai => exact zWD); (case zac => rfl); intro wa hb hf hs; have HBa := hid hb; have HFa := hid hf; clear hb hf hs) | (go_at_call 29; refine (HRUN.out _).mono ?_; rintro e w1 ⟨rfl, hf⟩; have HB1 := hid (HBa.out.fr hf (fun h => h)); have HF1 := hid (HFa.out.trans hf (fun _ _ h => h)); have q1 : w.heap.size < w1.heap.size := HB1.out.lt; clear hf HBa HFa) | ((with_reducible apply wpList_allocA (ty := 37) (dst := some 5) #[.int .i64 0, .string ⟨#[]⟩, .int .i64 0, .int .i64 0]); (case zai => exact zWD); (case zac => rfl); intro wb hb hf hs; have HBb := hid hb; have HB2 := hid (HB1.out.fr hf (fun h => h)); have HF2 := hid (HF1.out.trans hf (fun _ _ h => h)); clear hb hf hs HB1 HF1) | ((with_reducible apply wpList_storeA (b := w1.heap.size) (C := #[.int .i64 0, .string ⟨#[]⟩, .int .i64 0, .int .i64 0]) (cells := #[.int .i64 0, .string X, .int .i64 0, .int .i64 0]) (T := 37)); (case zsx => rfl); (case zsy => rfl); (case zsn => rfl); (case zsi => exact szWD); (case zs1 => rfl); (case zsb => exact HBb.out); intro wc hb hf hs; have HBc := hid hb; have c1 := hb.cell 1; have lc := hb.lt; have HB3 := hid (HB2.out.fr hf (fun h => by have : w.heap.size = w1.heap.size := h; omega)); have HF3 := hid (HF2.out.trans hf (fun z hz e => by have : z = w1.heap.size := e; omega)); clear hb hf hs HB2 HF2 HBb) | (go_at_call 30; refine (HDG.out _).mono ?_; rintro e w3 ⟨rfl, rfl⟩) | (go_at_call 31; refine (HNM.out _ (HT.out.fr (by first | exact HF3.out | (repeat (first | exact HF3.out | with_reducible apply Fr.drew))))).mono ?_; rintro e w4 ⟨rfl, hf⟩; have HB4 := hid (HB3.out.fr hf (fun h => h)); have HC4 := hid (HBc.out.fr hf (fun h => h)); have HF4 := hid (HF3.out.trans hf (fun _ _ h => h)); clear hf HB3 HBc HF3 c1 lc) | ((with_reducible apply wpList_setA (b := w1.heap.size) (o := 0) (C := #[.int .i64 0, .string X, .int .i64 0, .int .i64 0]) (v := .int .i64 1) (T := 37)); (case zcx => rfl); (case zcy => rfl); (case zcv => rfl); (case zc1 => rfl); (case zcn => simp); (case zci => exact szTI); (case zcb => exact HC4.out); intro w5 hb hf hs; have HC5 := hid (show Blk w5 w1.heap.size #[.int .i64 1, .string X, .int .i64 0, .int .i64 0] 37 from hb); have HB5 := hid (HB4.out.fr hf (fun h => by have : w.heap.size = w1.heap.size := h; omega)); have HF5 := hid (HF4.out.trans hf (fun z hz e => by have : z = w1.heap.size := e; omega)); clear hb hf hs HC4 HB4 HF4) | ((with_reducible apply wpList_setA (b := w1.heap.size) (o := 2) (C := #[.int .i64 1, .string X, .int .i64 0, .int .i64 0]) (v := .int .i64 NV) (T := 37)); (case zcx => rfl); (case zcy => rfl); (case zcv => rfl); (case zc1 => rfl); (case zcn => simp); (case zci => exact szTI64); (case zcb => exact HC5.out); intro w6 hb hf hs; have HC6 := hid (show Blk w6 w1.heap.size #[.int .i64 1, .string X, .int .i64 NV, .int .i64 0] 37 from hb); have HB6 := hid (HB5.out.fr hf (fun h => by have : w.heap.size = w1.heap.size := h; omega)); have HF6 := hid (HF5.out.trans hf (fun z hz e => by have : z = w1.heap.size := e; omega)); clear hb hf hs HC5 HB5 HF5) | ((with_reducible apply wpList_loadA (b := w1.heap.size) (C := #[.int .i64 1, .string X, .int .i64 NV, .int .i64 0]) (T := 37)); (case zlx => rfl); (case zlu => exact unWD.choose_spec.1); (case zld => exact unWD.choose_spec.2); (case zli => exact szWD); (case zlb => exact HC6.out)) | ((with_reducible apply wpList_storeA (b := w.heap.size) (C := #[.int .i64 0, .string ⟨#[]⟩, .int .i64 0, .int .i64 0]) (cells := #[.int .i64 1, .string X, .int .i64 NV, .int .i64 0]) (T := 37)); (case zsx => rfl); (case zsy => rfl); (case zsn => rfl); (case zsi => exact szWD); (case zs1 => rfl); (case zsb => exact HB6.out); intro wz hb hf hs; have HBz := hid hb; have HFz := hid (HF6.out.trans hf (fun z hz e => by have : z = w.heap.size := e; omega)); clear hb hf hs) | still_step | (with_reducible first | refine wpStill_nil ?_ | refine Flow.Both.mk ?_ ?_ | exact True.intro) | (with_reducible refine Flow.same_mk rfl rfl rfl ?_; go_simp; done) | (with_reducible exact Flow.same_un rfl rfl rfl) | (refine Flow.region_still mixed ?hB ?_; (case hB => decide +kernel)))
        refine bodyPost_ret (HRES.out _ rfl _ _ _ rfl HBz.out) rfl ?_
        exact ⟨rfl, HFz.out⟩
      | false =>
        rw [if_neg (by simp)] at hr
        subst hr
        unfold nextV
        go_enter Tryd.func19, Tryd.ntmps19
        go_wp2_with (first | ((with_reducible apply wpList_allocA (ty := 37) (dst := some 2) #[.int .i64 0, .string ⟨#[]⟩, .int .i64 0, .int .i64 0]); (case zai => exact zWD); (case zac => rfl); intro wa hb hf hs; have HBa := hid hb; have HFa := hid hf; clear hb hf hs) | (go_at_call 29; refine (HRUN.out _).mono ?_; rintro e w1 ⟨rfl, hf⟩; have HB1 := hid (HBa.out.fr hf (fun h => h)); have HF1 := hid (HFa.out.trans hf (fun _ _ h => h)); have q1 : w.heap.size < w1.heap.size := HB1.out.lt; clear hf HBa HFa) | ((with_reducible apply wpList_allocA (ty := 37) (dst := some 5) #[.int .i64 0, .string ⟨#[]⟩, .int .i64 0, .int .i64 0]); (case zai => exact zWD); (case zac => rfl); intro wb hb hf hs; have HBb := hid hb; have HB2 := hid (HB1.out.fr hf (fun h => h)); have HF2 := hid (HF1.out.trans hf (fun _ _ h => h)); clear hb hf hs HB1 HF1) | ((with_reducible apply wpList_storeA (b := w1.heap.size) (C := #[.int .i64 0, .string ⟨#[]⟩, .int .i64 0, .int .i64 0]) (cells := #[.int .i64 0, .string X, .int .i64 0, .int .i64 0]) (T := 37)); (case zsx => rfl); (case zsy => rfl); (case zsn => rfl); (case zsi => exact szWD); (case zs1 => rfl); (case zsb => exact HBb.out); intro wc hb hf hs; have HBc := hid hb; have c1 := hb.cell 1; have lc := hb.lt; have HB3 := hid (HB2.out.fr hf (fun h => by have : w.heap.size = w1.heap.size := h; omega)); have HF3 := hid (HF2.out.trans hf (fun z hz e => by have : z = w1.heap.size := e; omega)); clear hb hf hs HB2 HF2 HBb) | (go_at_call 30; refine (HDG.out _).mono ?_; rintro e w3 ⟨rfl, rfl⟩) | (go_at_call 31; refine (HNM.out _ (HT.out.fr (by first | exact HF3.out | (repeat (first | exact HF3.out | with_reducible apply Fr.drew))))).mono ?_; rintro e w4 ⟨rfl, hf⟩; have HB4 := hid (HB3.out.fr hf (fun h => h)); have HC4 := hid (HBc.out.fr hf (fun h => h)); have HF4 := hid (HF3.out.trans hf (fun _ _ h => h)); clear hf HB3 HBc HF3 c1 lc) | ((with_reducible apply wpList_storeA (b := w.heap.size) (C := #[.int .i64 0, .string ⟨#[]⟩, .int .i64 0, .int .i64 0]) (cells := #[.int .i64 0, .string ⟨#[]⟩, .int .i64 0, .int .i64 0]) (T := 37)); (case zsx => rfl); (case zsy => rfl); (case zsn => rfl); (case zsi => exact szWD); (case zs1 => rfl); (case zsb => exact HB4.out); intro wz hb hf hs; have HBz := hid hb; have HFz := hid (HF4.out.trans hf (fun z hz e => by have : z = w.heap.size := e; omega)); clear hb hf hs) | still_step | (with_reducible first | refine wpStill_nil ?_ | refine Flow.Both.mk ?_ ?_ | exact True.intro) | (with_reducible refine Flow.same_mk rfl rfl rfl ?_; go_simp; done) | (with_reducible exact Flow.same_un rfl rfl rfl) | (refine Flow.region_still mixed ?hB ?_; (case hB => decide +kernel)))
        refine bodyPost_ret (HRES.out _ rfl _ _ _ rfl HBz.out) rfl ?_
        exact ⟨rfl, HFz.out⟩
    | false =>
      rw [hd] at HDG
      rw [if_neg (by simp [hd])] at hr
      clear hd
      by_cases h24 : 24 < (c :: t).length
      · rw [if_pos h24] at hr
        subst hr
        have hm24 : (24 : Int) < m := by omega
        unfold nextV
        clear hl h24
        go_enter Tryd.func19, Tryd.ntmps19
        go_wp2_with (first | ((with_reducible apply wpList_allocA (ty := 37) (dst := some 2) #[.int .i64 0, .string ⟨#[]⟩, .int .i64 0, .int .i64 0]); (case zai => exact zWD); (case zac => rfl); intro wa hb hf hs; have HBa := hid hb; have HFa := hid hf; clear hb hf hs) | (go_at_call 29; refine (HRUN.out _).mono ?_; rintro e w1 ⟨rfl, hf⟩; have HB1 := hid (HBa.out.fr hf (fun h => h)); have HF1 := hid (HFa.out.trans hf (fun _ _ h => h)); have q1 : w.heap.size < w1.heap.size := HB1.out.lt; clear hf HBa HFa) | ((with_reducible apply wpList_allocA (ty := 37) (dst := some 5) #[.int .i64 0, .string ⟨#[]⟩, .int .i64 0, .int .i64 0]); (case zai => exact zWD); (case zac => rfl); intro wb hb hf hs; have HBb := hid hb; have HB2 := hid (HB1.out.fr hf (fun h => h)); have HF2 := hid (HF1.out.trans hf (fun _ _ h => h)); clear hb hf hs HB1 HF1) | ((with_reducible apply wpList_storeA (b := w1.heap.size) (C := #[.int .i64 0, .string ⟨#[]⟩, .int .i64 0, .int .i64 0]) (cells := #[.int .i64 0, .string X, .int .i64 0, .int .i64 0]) (T := 37)); (case zsx => rfl); (case zsy => rfl); (case zsn => rfl); (case zsi => exact szWD); (case zs1 => rfl); (case zsb => exact HBb.out); intro wc hb hf hs; have HBc := hid hb; have c1 := hb.cell 1; have lc := hb.lt; have HB3 := hid (HB2.out.fr hf (fun h => by have : w.heap.size = w1.heap.size := h; omega)); have HF3 := hid (HF2.out.trans hf (fun z hz e => by have : z = w1.heap.size := e; omega)); clear hb hf hs HB2 HF2 HBb) | (go_at_call 30; refine (HDG.out _).mono ?_; rintro e w3 ⟨rfl, rfl⟩) | ((with_reducible apply wpList_storeA (b := w.heap.size) (C := #[.int .i64 0, .string ⟨#[]⟩, .int .i64 0, .int .i64 0]) (cells := #[.int .i64 0, .string ⟨#[]⟩, .int .i64 0, .int .i64 0]) (T := 37)); (case zsx => rfl); (case zsy => rfl); (case zsn => rfl); (case zsi => exact szWD); (case zs1 => rfl); (case zsb => exact HB3.out); intro wz hb hf hs; have HBz := hid hb; have HFz := hid (HF3.out.trans hf (fun z hz e => by have : z = w.heap.size := e; omega)); clear hb hf hs) | still_step | (with_reducible first | refine wpStill_nil ?_ | refine Flow.Both.mk ?_ ?_ | exact True.intro) | (with_reducible refine Flow.same_mk rfl rfl rfl ?_; go_simp; done) | (with_reducible exact Flow.same_un rfl rfl rfl) | (refine Flow.region_still mixed ?hB ?_; (case hB => decide +kernel)))
        refine bodyPost_ret (HRES.out _ rfl _ _ _ rfl HBz.out) rfl ?_
        exact ⟨rfl, HFz.out⟩
      · rw [if_neg h24] at hr
        subst hr
        have hm24 : (m : Int) ≤ 24 := by omega
        have hmz : ((m : Int) == 0) = false := by simp; omega
        unfold nextV
        dsimp only
        rw [← HX.out]
        clear hl h24
        go_enter Tryd.func19, Tryd.ntmps19
        go_wp2_with (first | ((with_reducible apply wpList_allocA (ty := 37) (dst := some 2) #[.int .i64 0, .string ⟨#[]⟩, .int .i64 0, .int .i64 0]); (case zai => exact zWD); (case zac => rfl); intro wa hb hf hs; have HBa := hid hb; have HFa := hid hf; clear hb hf hs) | (go_at_call 29; refine (HRUN.out _).mono ?_; rintro e w1 ⟨rfl, hf⟩; have HB1 := hid (HBa.out.fr hf (fun h => h)); have HF1 := hid (HFa.out.trans hf (fun _ _ h => h)); have q1 : w.heap.size < w1.heap.size := HB1.out.lt; clear hf HBa HFa) | ((with_reducible apply wpList_allocA (ty := 37) (dst := some 5) #[.int .i64 0, .string ⟨#[]⟩, .int .i64 0, .int .i64 0]); (case zai => exact zWD); (case zac => rfl); intro wb hb hf hs; have HBb := hid hb; have HB2 := hid (HB1.out.fr hf (fun h => h)); have HF2 := hid (HF1.out.trans hf (fun _ _ h => h)); clear hb hf hs HB1 HF1) | ((with_reducible apply wpList_storeA (b := w1.heap.size) (C := #[.int .i64 0, .string ⟨#[]⟩, .int .i64 0, .int .i64 0]) (cells := #[.int .i64 0, .string X, .int .i64 0, .int .i64 0]) (T := 37)); (case zsx => rfl); (case zsy => rfl); (case zsn => rfl); (case zsi => exact szWD); (case zs1 => rfl); (case zsb => exact HBb.out); intro wc hb hf hs; have HBc := hid hb; have c1 := hb.cell 1; have lc := hb.lt; have HB3 := hid (HB2.out.fr hf (fun h => by have : w.heap.size = w1.heap.size := h; omega)); have HF3 := hid (HF2.out.trans hf (fun z hz e => by have : z = w1.heap.size := e; omega)); clear hb hf hs HB2 HF2 HBb) | (go_at_call 30; refine (HDG.out _).mono ?_; rintro e w3 ⟨rfl, rfl⟩) | ((with_reducible apply wpList_loadA (b := w1.heap.size) (C := #[.int .i64 0, .string X, .int .i64 0, .int .i64 0]) (T := 37)); (case zlx => rfl); (case zlu => exact unWD.choose_spec.1); (case zld => exact unWD.choose_spec.2); (case zli => exact szWD); (case zlb => exact HBc.out)) | ((with_reducible apply wpList_storeA (b := w.heap.size) (C := #[.int .i64 0, .string ⟨#[]⟩, .int .i64 0, .int .i64 0]) (cells := #[.int .i64 0, .string X, .int .i64 0, .int .i64 0]) (T := 37)); (case zsx => rfl); (case zsy => rfl); (case zsn => rfl); (case zsi => exact szWD); (case zs1 => rfl); (case zsb => exact HB3.out); intro wz hb hf hs; have HBz := hid hb; have HFz := hid (HF3.out.trans hf (fun z hz e => by have : z = w.heap.size := e; omega)); clear hb hf hs) | still_step | (with_reducible first | refine wpStill_nil ?_ | refine Flow.Both.mk ?_ ?_ | exact True.intro) | (with_reducible refine Flow.same_mk rfl rfl rfl ?_; go_simp; done) | (with_reducible exact Flow.same_un rfl rfl rfl) | (refine Flow.region_still mixed ?hB ?_; (case hB => decide +kernel)))
        refine bodyPost_ret (HRES.out _ rfl _ _ _ rfl HBz.out) rfl ?_
        exact ⟨rfl, HFz.out⟩
end Go.Proofs.YtfiebpcambdbaaaDoor
