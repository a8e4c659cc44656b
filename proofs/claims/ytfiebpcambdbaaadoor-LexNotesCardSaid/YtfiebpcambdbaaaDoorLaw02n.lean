/-
  LexNotes: the law's walk.
-/
import Derived.Test.YtfiebpcambdbaaaDoorLaw02w
set_option linter.unusedVariables false
set_option linter.unusedSimpArgs false
set_option maxHeartbeats 4000000
set_option maxRecDepth 8000
namespace Go.Proofs.YtfiebpcambdbaaaDoor
open Go.RowKit Go.Shelf Go.Proofs.YtfiebpcambdbaaaDoor.Lex
attribute [local irreducible] wpStill wpList Calls CallsIn

/-- What Words hands back, of whatever kind. -/
theorem WordsTo.any {E : TypeId} {w w' : World} {r : Except (Int × Int) (List Wd)} {e : Ending} (h : WordsTo E w r e w') : ∃ ao n cap f p, e = .returned (.tuple #[.slice ao n cap, .int .i64 f, .int .i64 p]) ∧ Fr (fun _ => False) w w' := by
  cases r with
  | error x => obtain ⟨x, a⟩ := x; exact ⟨none, 0, 0, x, a, h.1, h.2⟩
  | ok l => obtain ⟨ao, cap, h1, _, h3⟩ := h; exact ⟨ao, l.length, cap, 0, 0, h1, h3⟩
theorem wordsB_err {s : B} {x a : Int} (hs : s.length ≤ 16384) (h : wordsB s = .error (x, a)) : (x = 10 ∨ x = 2) ∧ 0 ≤ a ∧ a < s.length := by
  unfold wordsB at h
  rw [if_neg (by omega)] at h
  have hb : ∀ (m : Nat) (T : Int) (r : B), r.length ≤ m → wordsR T r = .error (x, a) → x = 10 ∨ x = 2 := by
    intro m
    induction m with
    | zero =>
      intro T r hr h
      obtain rfl : r = [] := List.length_eq_zero_iff.1 (by omega)
      rw [wordsR_nil] at h; cases h
    | succ m ih =>
      intro T r hr h
      by_cases hn : r = []
      · subst hn; rw [wordsR_nil] at h; cases h
      · rcases wordsR_cases T hn with ⟨e, he, h2⟩ | ⟨k, t, n, h1, h2⟩
        · rw [h2] at h; cases h; exact next_err he
        · rw [h2] at h
          have hlt := drop_lt hn h1
          exact ih T _ (by omega) (consW_err h)
  have h1 := wordsR_bad s.length _ _ (Nat.le_refl _) x a h
  have h2 := skipB_le s
  exact ⟨hb _ _ _ (Nat.le_refl _) h, by omega, h1.2⟩
theorem cat_is (l : B) (n t : B) : ((((⟨l.toArray⟩ : ByteArray) ++ ⟨#[10, 47, 47]⟩) ++ ⟨n.toArray⟩) ++ ⟨#[10]⟩) ++ ⟨t.toArray⟩ = ⟨(l ++ noted n t).toArray⟩ := by
  apply ByteArray.ext
  simp [ByteArray.append, noted]

set_option maxHeartbeats 8000000 in
theorem lexnotes_l (ls ln lt : B) (w : World) (ht : Tabs w) (hz : ls.length ≤ 140737488351232 ∧ ln.length ≤ 140737488351232 ∧ lt.length ≤ 140737488351232) :
    Calls Tryd.prog 6 #[.string ⟨ls.toArray⟩, .string ⟨ln.toArray⟩, .string ⟨lt.toArray⟩] w fun e w' => e = .returned (.bool true) ∧ Fr (fun _ => False) w w' := by
  have HT := hid ht
  clear ht
  have HAW := hid (fun w ht => awake_true w ht)
  obtain ⟨sv, hsv⟩ : ∃ sv : ByteArray, sv = ⟨ls.toArray⟩ := ⟨_, rfl⟩
  obtain ⟨nv, hnv⟩ : ∃ sv : ByteArray, sv = ⟨ln.toArray⟩ := ⟨_, rfl⟩
  obtain ⟨tv, htv⟩ : ∃ sv : ByteArray, sv = ⟨lt.toArray⟩ := ⟨_, rfl⟩
  have hss : sv.size = ls.length := by rw [hsv]; exact mk_size ls
  have hns : nv.size = ln.length := by rw [hnv]; exact mk_size ln
  have hts : tv.size = lt.length := by rw [htv]; exact mk_size lt
  have HCAT := hid (cat_is ls ln lt)
  by_cases b1 : 1000 < ls.length
  · rw [← hsv, ← hnv, ← htv]
    have b1' : (1000 : Int) < ls.length := by omega
    clear hsv hnv htv b1 hz HCAT
    generalize ls.length = N1 at *
    go_enter Tryd.func6, Tryd.ntmps6
    go_wp2_with (first | (go_at_call 8; refine (HAW.out _ HT.out).mono ?_; rintro e w1 ⟨rfl, hf⟩; have HF1 := hid hf; clear hf) | still_step | (with_reducible first | refine wpStill_nil ?_ | refine Flow.Both.mk ?_ ?_ | exact True.intro) | (with_reducible refine Flow.same_mk rfl rfl rfl ?_; go_simp; done) | (with_reducible exact Flow.same_un rfl rfl rfl) | (refine Flow.region_still mixed ?hB ?_; (case hB => decide +kernel)))
    go_ret
    exact ⟨by simp, HF1.out⟩
  by_cases b2 : 1000 < lt.length
  · rw [← hsv, ← hnv, ← htv]
    have b1' : (ls.length : Int) ≤ 1000 := by omega
    have b2' : (1000 : Int) < lt.length := by omega
    clear hsv hnv htv b1 b2 hz HCAT
    generalize ls.length = N1 at *
    generalize lt.length = N3 at *
    go_enter Tryd.func6, Tryd.ntmps6
    go_wp2_with (first | (go_at_call 8; refine (HAW.out _ HT.out).mono ?_; rintro e w1 ⟨rfl, hf⟩; have HF1 := hid hf; clear hf) | still_step | (with_reducible first | refine wpStill_nil ?_ | refine Flow.Both.mk ?_ ?_ | exact True.intro) | (with_reducible refine Flow.same_mk rfl rfl rfl ?_; go_simp; done) | (with_reducible exact Flow.same_un rfl rfl rfl) | (refine Flow.region_still mixed ?hB ?_; (case hB => decide +kernel)))
    go_ret
    exact ⟨by simp, HF1.out⟩
  by_cases b3 : 100 < ln.length
  · rw [← hsv, ← hnv, ← htv]
    have b1' : (ls.length : Int) ≤ 1000 := by omega
    have b2' : (lt.length : Int) ≤ 1000 := by omega
    have b3' : (100 : Int) < ln.length := by omega
    clear hsv hnv htv b1 b2 b3 hz HCAT
    generalize ls.length = N1 at *
    generalize lt.length = N3 at *
    generalize ln.length = N2 at *
    go_enter Tryd.func6, Tryd.ntmps6
    go_wp2_with (first | (go_at_call 8; refine (HAW.out _ HT.out).mono ?_; rintro e w1 ⟨rfl, hf⟩; have HF1 := hid hf; clear hf) | still_step | (with_reducible first | refine wpStill_nil ?_ | refine Flow.Both.mk ?_ ?_ | exact True.intro) | (with_reducible refine Flow.same_mk rfl rfl rfl ?_; go_simp; done) | (with_reducible exact Flow.same_un rfl rfl rfl) | (refine Flow.region_still mixed ?hB ?_; (case hB => decide +kernel)))
    go_ret
    exact ⟨by simp, HF1.out⟩
  have b1' : (ls.length : Int) ≤ 1000 := by omega
  have b2' : (lt.length : Int) ≤ 1000 := by omega
  have b3' : (ln.length : Int) ≤ 100 := by omega
  have HIN := hid (fun w => rin_is ln 10 w (by omega))
  cases h10 : ln.contains (10 : UInt8) with
  | true =>
    rw [h10, ← hnv, show (((10 : UInt8).toNat : Nat) : Int) = 10 from rfl] at HIN
    rw [← hsv, ← hnv, ← htv]
    clear hsv hnv htv b1 b2 b3 hz HCAT h10
    generalize ls.length = N1 at *
    generalize lt.length = N3 at *
    generalize ln.length = N2 at *
    go_enter Tryd.func6, Tryd.ntmps6
    go_wp2_with (first | (go_at_call 8; refine (HAW.out _ HT.out).mono ?_; rintro e w1 ⟨rfl, hf⟩; have HF1 := hid hf; clear hf) | (go_at_call 17; refine (HIN.out _).mono ?_; rintro e w2 ⟨rfl, hf⟩; have HF2 := hid (HF1.out.trans hf (fun _ _ h => h)); clear hf) | still_step | (with_reducible first | refine wpStill_nil ?_ | refine Flow.Both.mk ?_ ?_ | exact True.intro) | (with_reducible refine Flow.same_mk rfl rfl rfl ?_; go_simp; done) | (with_reducible exact Flow.same_un rfl rfl rfl) | (refine Flow.region_still mixed ?hB ?_; (case hB => decide +kernel)))
    go_ret
    exact ⟨by simp, HF2.out⟩
  | false =>
    have hno : (10 : UInt8) ∉ ln := by simpa using h10
    rw [h10, ← hnv, show (((10 : UInt8).toNat : Nat) : Int) = 10 from rfl] at HIN
    have hlen : (ls ++ noted ln lt).length ≤ 16384 := by simp [noted]; omega
    have hwn := words_noted ln lt hno ls hlen
    have HWS := hid (fun w ht => words_is ls w (by omega) ht)
    have HWT := hid (fun w ht => words_is lt w (by omega) ht)
    have hwc := fun w ht => words_is (ls ++ noted ln lt) w (by omega) ht
    rw [hwn, ← cat_is, ← hsv, ← hnv, ← htv] at hwc
    have HWC := hid hwc
    rw [← hsv] at HWS
    rw [← htv] at HWT
    rw [← hsv, ← hnv, ← htv]
    have hes := fun x a (h : wordsB ls = .error (x, a)) => wordsB_err (by omega) h
    have het := fun x a (h : wordsB lt = .error (x, a)) => wordsB_err (by omega) h
    have hos := fun l (h : wordsB ls = .ok l) => wordsB_len h
    have hot := fun l (h : wordsB lt = .ok l) => wordsB_len h
    have HES := hid (⟨hes, het, hos, hot⟩ : _ ∧ _ ∧ _ ∧ _)
    have hfs := fun l (h : wordsB ls = .ok l) => (show ∃ l0, l = l0 ++ [⟨3, [], 0, (ls.length : Int)⟩] by
      unfold wordsB at h
      rw [if_neg (by omega)] at h
      obtain ⟨l0, h1, _⟩ := wordsR_form _ _ _ (Nat.le_refl _) l h
      exact ⟨l0, h1⟩)
    have hft := fun l (h : wordsB lt = .ok l) => (show ∃ l0, l = l0 ++ [⟨3, [], 0, (lt.length : Int)⟩] by
      unfold wordsB at h
      rw [if_neg (by omega)] at h
      obtain ⟨l0, h1, _⟩ := wordsR_form _ _ _ (Nat.le_refl _) l h
      exact ⟨l0, h1⟩)
    have HFS := hid (⟨hfs, hft⟩ : _ ∧ _)
    generalize hD : ((ls.length + ln.length + 4 : Nat) : Int) = D at *
    clear hsv hnv htv b1 b2 b3 hz HCAT h10 hno hlen hwn hwc hes het hos hot hD hfs hft
    generalize hxs : wordsB ls = xs at *
    generalize hxt : wordsB lt = xt at *
    clear hxs hxt
    generalize ls.length = N1 at *
    generalize lt.length = N3 at *
    generalize ln.length = N2 at *
    go_enter Tryd.func6, Tryd.ntmps6
    go_wp2_with (first | (go_at_call 8; refine (HAW.out _ HT.out).mono ?_; rintro e w1 ⟨rfl, hf⟩; have HF1 := hid hf; clear hf) | (go_at_call 17; refine (HIN.out _).mono ?_; rintro e w2 ⟨rfl, hf⟩; have HF2 := hid (HF1.out.trans hf (fun _ _ h => h)); clear hf) | still_step | (with_reducible first | refine wpStill_nil ?_ | refine Flow.Both.mk ?_ ?_ | exact True.intro) | (with_reducible refine Flow.same_mk rfl rfl rfl ?_; go_simp; done) | (with_reducible exact Flow.same_un rfl rfl rfl) | (refine Flow.region_still mixed ?hB ?_; (case hB => decide +kernel)))
    go_at_call 9
    cases xs with
    | error xa =>
      obtain ⟨x, a⟩ := xa
      refine (HWS.out _ (HT.out.fr HF2.out)).mono ?_
      rintro e w3 ⟨rfl, hf⟩
      have HF3 := hid (HF2.out.trans hf (fun _ _ h => h))
      have hx0 : (x != 0) = true := by rcases (HES.out.1 x a rfl).1 with rfl | rfl <;> rfl
      clear hf
      go_wp2_with (first | still_step | (with_reducible first | refine wpStill_nil ?_ | refine Flow.Both.mk ?_ ?_ | exact True.intro) | (with_reducible refine Flow.same_mk rfl rfl rfl ?_; go_simp; done) | (with_reducible exact Flow.same_un rfl rfl rfl) | (refine Flow.region_still mixed ?hB ?_; (case hB => decide +kernel)))
      go_at_call 9
      refine (HWT.out _ (HT.out.fr HF3.out)).mono ?_
      intro e w4 hto
      obtain ⟨ao, n, cap, f, p, rfl, hf⟩ := hto.any
      have HF4 := hid (HF3.out.trans hf (fun _ _ h => h))
      clear hf hto
      go_wp2_with (first | still_step | (with_reducible first | refine wpStill_nil ?_ | refine Flow.Both.mk ?_ ?_ | exact True.intro) | (with_reducible refine Flow.same_mk rfl rfl rfl ?_; go_simp; done) | (with_reducible exact Flow.same_un rfl rfl rfl) | (refine Flow.region_still mixed ?hB ?_; (case hB => decide +kernel)))
      go_at_call 9
      refine (HWC.out _ (HT.out.fr HF4.out)).mono ?_
      rintro e w5 ⟨rfl, hf⟩
      have HF5 := hid (HF4.out.trans hf (fun _ _ h => h))
      clear hf
      go_wp2_with (first | still_step | (with_reducible first | refine wpStill_nil ?_ | refine Flow.Both.mk ?_ ?_ | exact True.intro) | (with_reducible refine Flow.same_mk rfl rfl rfl ?_; go_simp; done) | (with_reducible exact Flow.same_un rfl rfl rfl) | (refine Flow.region_still mixed ?hB ?_; (case hB => decide +kernel)))
      go_ret
      exact ⟨by simp, HF5.out⟩
    | ok la =>
      refine (HWS.out _ (HT.out.fr HF2.out)).mono ?_
      rintro e w3 ⟨a3, c3, rfl, ho3, hf⟩
      have HF3 := hid (HF2.out.trans hf (fun _ _ h => h))
      have HV3 := hid ho3.vw
      clear hf ho3
      go_wp2_with (first | still_step | (with_reducible first | refine wpStill_nil ?_ | refine Flow.Both.mk ?_ ?_ | exact True.intro) | (with_reducible refine Flow.same_mk rfl rfl rfl ?_; go_simp; done) | (with_reducible exact Flow.same_un rfl rfl rfl) | (refine Flow.region_still mixed ?hB ?_; (case hB => decide +kernel)))
      go_at_call 9
      cases xt with
      | error xa =>
        obtain ⟨x, a⟩ := xa
        refine (HWT.out _ (HT.out.fr HF3.out)).mono ?_
        rintro e w4 ⟨rfl, hf⟩
        have HF4 := hid (HF3.out.trans hf (fun _ _ h => h))
        have hx0 : (x != 0) = true := by rcases (HES.out.2.1 x a rfl).1 with rfl | rfl <;> rfl
        clear hf
        go_wp2_with (first | still_step | (with_reducible first | refine wpStill_nil ?_ | refine Flow.Both.mk ?_ ?_ | exact True.intro) | (with_reducible refine Flow.same_mk rfl rfl rfl ?_; go_simp; done) | (with_reducible exact Flow.same_un rfl rfl rfl) | (refine Flow.region_still mixed ?hB ?_; (case hB => decide +kernel)))
        go_at_call 9
        refine (HWC.out _ (HT.out.fr HF4.out)).mono ?_
        rintro e w5 ⟨rfl, hf⟩
        have HF5 := hid (HF4.out.trans hf (fun _ _ h => h))
        clear hf
        go_wp2_with (first | still_step | (with_reducible first | refine wpStill_nil ?_ | refine Flow.Both.mk ?_ ?_ | exact True.intro) | (with_reducible refine Flow.same_mk rfl rfl rfl ?_; go_simp; done) | (with_reducible exact Flow.same_un rfl rfl rfl) | (refine Flow.region_still mixed ?hB ?_; (case hB => decide +kernel)))
        go_ret
        exact ⟨by simp, HF5.out⟩
      | ok lb =>
        refine (HWT.out _ (HT.out.fr HF3.out)).mono ?_
        rintro e w4 ⟨a4, c4, rfl, ho4, hf⟩
        have HF4 := hid (HF3.out.trans hf (fun _ _ h => h))
        have HV3' := hid (HV3.out.fr hf (fun _ _ h => h))
        have HV4 := hid ho4.vw
        clear hf ho4
        go_wp2_with (first | still_step | (with_reducible first | refine wpStill_nil ?_ | refine Flow.Both.mk ?_ ?_ | exact True.intro) | (with_reducible refine Flow.same_mk rfl rfl rfl ?_; go_simp; done) | (with_reducible exact Flow.same_un rfl rfl rfl) | (refine Flow.region_still mixed ?hB ?_; (case hB => decide +kernel)))
        go_at_call 9
        refine (HWC.out _ (HT.out.fr HF4.out)).mono ?_
        rintro e w5 ⟨a5, c5, rfl, ho5, hf⟩
        have HF5 := hid (HF4.out.trans hf (fun _ _ h => h))
        have HVA := hid (HV3'.out.fr hf (fun _ _ h => h))
        have HVB := hid (HV4.out.fr hf (fun _ _ h => h))
        have HVC := hid ho5.vw
        clear hf ho5
        obtain ⟨hfs, hft⟩ := HFS.out
        obtain ⟨l0, hl0⟩ := hfs la rfl
        obtain ⟨m0, hm0⟩ := hft lb rfl
        have hla := HES.out.2.2.1 la rfl
        have hlb := HES.out.2.2.2 lb rfl
        obtain ⟨LC, hLC⟩ : ∃ LC : List Wd, LC = la.dropLast ++ lb.map (fun w => ({ w with at' := w.at' + D } : Wd)) := ⟨_, rfl⟩
        have hdl : la.dropLast = l0 := by rw [hl0]; simp
        have hlen : LC.length = la.length + lb.length - 1 := by rw [hLC, List.length_append, List.length_map, hdl, hl0]; simp
        have hlp : 1 ≤ la.length ∧ 1 ≤ lb.length := by rw [hl0, hm0]; simp
        rw [← hLC] at HVC ⊢
        have hget1 : ∀ k (h : k < LC.length), k < la.length - 1 → ∃ h2 : k < la.length, LC[k] = la[k] := fun k h h1 => by
          refine ⟨by omega, ?_⟩
          subst hLC
          rw [List.getElem_append_left (by rw [hdl]; rw [hl0] at h1; simpa using h1)]
          simp
        have hget2 : ∀ k (h : k < LC.length), ¬ k < la.length - 1 → ∃ h2 : k - (la.length - 1) < lb.length, LC[k].kind = lb[k - (la.length - 1)].kind ∧ LC[k].text = lb[k - (la.length - 1)].text ∧ LC[k].n = lb[k - (la.length - 1)].n := fun k h h1 => by
          refine ⟨by omega, ?_⟩
          subst hLC
          have hd2 : la.dropLast.length = la.length - 1 := by simp
          rw [List.getElem_append_right (by rw [hd2]; omega)]
          simp
        have HGET := hid (⟨hget1, hget2⟩ : _ ∧ _)
        obtain ⟨NA, hNA⟩ : ∃ n, n = la.length := ⟨_, rfl⟩
        obtain ⟨NB, hNB⟩ : ∃ n, n = lb.length := ⟨_, rfl⟩
        obtain ⟨NC, hNC⟩ : ∃ n, n = LC.length := ⟨_, rfl⟩
        rw [← hNA, ← hNB, ← hNC]
        have HNS := hid (⟨hNA, hNB, hNC⟩ : _ ∧ _ ∧ _)
        have hc1 : NC = NA + NB - 1 := by omega
        have hc2 : 1 ≤ NA ∧ 1 ≤ NB ∧ NA ≤ 20000 ∧ NB ≤ 20000 := by omega
        obtain ⟨hc3, hc4, hc5, hc6⟩ := hc2
        have hc7 : (NC : Int) = (NA : Int) + NB - 1 := by omega
        have HC7 := hid hc1
        clear hfs hft hl0 hm0 hla hlb hLC hdl hlen hlp hget1 hget2 hNA hNB hNC hc1
        have hcm : ((NC : Int) != (NA : Int) + NB - 1) = false := by simp; omega
        go_wp2_with (first | still_step | (with_reducible first | refine wpStill_nil ?_ | refine Flow.Both.mk ?_ ?_ | exact True.intro) | (with_reducible refine Flow.same_mk rfl rfl rfl ?_; go_simp; done) | (with_reducible exact Flow.same_un rfl rfl rfl) | (refine Flow.region_still mixed ?hB ?_; (case hB => decide +kernel)))
        have HC9 := hid hc7
        have hNC1 : 1 ≤ NC := by omega
        have hNC2 : NC ≤ 40000 := by omega
        clear hc7 hcm
        go_loopw [17] (fun v wr => ∃ k : Nat, k ≤ NC - 1 ∧ v = .int .i64 (k : Int) ∧ Fr (fun _ => False) w5 wr) (fun v _ => NC - (intOf v).toNat)
        case atStart => exact ⟨0, Nat.zero_le _, rfl, by (with_reducible repeat' (first | exact Fr.refl _ _ | apply Fr.alloc | apply Fr.drew | apply Fr.drewN | refine Fr.setCell ?_ ?_ _))⟩
        case round =>
          obtain ⟨k, hk, rfl, hf⟩ := hrel
          have HQ := hid hf
          have HSZ := hid hf.size
          clear hf
          by_cases hlt : k < NC - 1
          · have hkc : k < LC.length := by have := HNS.out.2.2; omega
            have hlt2 : (k : Int) < (NC : Int) - 1 := by omega
            have hkNC : (k : Int) < NC := by omega
            obtain ⟨r1, o1, rfl, -, -, p0, p1, p2, -⟩ := wd_at HVC.out hkc
            have lr1 := World.block_lt_of_cell? _ _ p0
            by_cases hA : k < NA - 1
            · obtain ⟨h2, he⟩ := HGET.out.1 k hkc (by rw [← HNS.out.1]; exact hA)
              rw [he] at p0 p1 p2
              obtain ⟨r2, o2, rfl, -, -, q0, q1, q2, q3⟩ := wd_at HVA.out h2
              have lr2 := World.block_lt_of_cell? _ _ q0
              have hA2 : (k : Int) < (NA : Int) - 1 := by omega
              have hA3 : (k : Int) < NA := by omega
              generalize la[k].kind = x0 at *
              generalize (⟨la[k].text.toArray⟩ : ByteArray) = x1 at *
              generalize la[k].n = x2 at *
              generalize la[k].at' = x3 at *
              have HSRC := hid (fun (W : World) (h : Fr (fun _ => False) w5 W) => (⟨h.cell q0 (fun h => h), h.cell q1 (fun h => h), h.cell q2 (fun h => h), h.cell q3 (fun h => h), Nat.lt_of_lt_of_le lr2 h.size⟩ : _ ∧ _ ∧ _ ∧ _ ∧ r2 < W.heap.size))
              have HDST := hid (fun (W : World) (h : Fr (fun _ => False) w5 W) => (⟨h.cell p0 (fun h => h), h.cell p1 (fun h => h), h.cell p2 (fun h => h), Nat.lt_of_lt_of_le lr1 h.size⟩ : _ ∧ _ ∧ _ ∧ r1 < W.heap.size))
              clear p0 p1 p2 q0 q1 q2 q3 lr1 lr2 he h2
              go_wp2_with (first | ((with_reducible apply wpList_allocA (ty := 37) (dst := some 18) #[.int .i64 0, .string ⟨#[]⟩, .int .i64 0, .int .i64 0]); (case zai => exact zWD); (case zac => rfl); intro wx2 hb hf hs; have HB12 := hid hb; have HQ12 := hid (HQ.out.trans hf (fun _ _ h => h)); clear hb hf hs) | ((with_reducible apply wpList_storeA (b := wr.heap.size) (C := #[.int .i64 0, .string ⟨#[]⟩, .int .i64 0, .int .i64 0]) (cells := #[.int .i64 0, .string ⟨#[]⟩, .int .i64 0, .int .i64 0]) (T := 37)); (case zsx => rfl); (case zsy => rfl); (case zsn => rfl); (case zsi => exact szWD); (case zs1 => rfl); (case zsb => exact HB12.out); intro wx3 hb hf hs; have HB13 := hid hb; have HQ13 := hid (HQ12.out.trans hf (fun z hz e => by have h1 : z = wr.heap.size := e; have h2 := HSZ.out; omega)); obtain ⟨q0, q1, q2, q3, lq⟩ := HSRC.out _ HQ13.out; clear hb hf hs) | ((with_reducible apply wpList_storeA (b := wr.heap.size) (C := #[.int .i64 0, .string ⟨#[]⟩, .int .i64 0, .int .i64 0]) (cells := #[.int .i64 x0, .string x1, .int .i64 x2, .int .i64 x3]) (T := 37)); (case zsx => rfl); (case zsy => rfl); (case zsn => rfl); (case zsi => exact szWD); (case zs1 => rfl); (case zsb => exact HB13.out); intro wx4 hb hf hs; have HB14 := hid hb; have HQ14 := hid (HQ13.out.trans hf (fun z hz e => by have h1 : z = wr.heap.size := e; have h2 := HSZ.out; omega)); (clear q0 q1 q2 q3 lq); (obtain ⟨p0, p1, p2, lp⟩ := HDST.out _ HQ14.out); have d0 := HB14.out.cell 0; have d1 := HB14.out.cell 1; have d2 := HB14.out.cell 2; have ld := HB14.out.lt; clear hb hf hs) | still_step | (with_reducible first | refine wpStill_nil ?_ | refine Flow.Both.mk ?_ ?_ | exact True.intro) | (with_reducible refine Flow.same_mk rfl rfl rfl ?_; go_simp; done) | (with_reducible exact Flow.same_un rfl rfl rfl) | (refine Flow.region_still mixed ?hB ?_; (case hB => decide +kernel)))
              go_roundw
              case rel => exact ⟨k + 1, by omega, rfl, by first | exact HQ14.out | exact HQ14.out.drew⟩
              case measure => simp [intOf]; omega
            · obtain ⟨h2, he0, he1, he2⟩ := HGET.out.2 k hkc (by rw [← HNS.out.1]; exact hA)
              rw [he0] at p0
              rw [he1] at p1
              rw [he2] at p2
              clear he0 he1 he2
              generalize hj : k - (la.length - 1) = j at *
              rw [← HNS.out.1] at hj
              obtain ⟨r2, o2, rfl, -, -, q0, q1, q2, q3⟩ := wd_at HVB.out h2
              have lr2 := World.block_lt_of_cell? _ _ q0
              have hA2 : ¬ (k : Int) < (NA : Int) - 1 := by omega
              have hjj : (k : Int) - NA + 1 = (j : Int) := by omega
              have hjB : (j : Int) < NB := by have := HNS.out.2.1; omega
              generalize lb[j].kind = x0 at *
              generalize (⟨lb[j].text.toArray⟩ : ByteArray) = x1 at *
              generalize lb[j].n = x2 at *
              generalize lb[j].at' = x3 at *
              have HSRC := hid (fun (W : World) (h : Fr (fun _ => False) w5 W) => (⟨h.cell q0 (fun h => h), h.cell q1 (fun h => h), h.cell q2 (fun h => h), h.cell q3 (fun h => h), Nat.lt_of_lt_of_le lr2 h.size⟩ : _ ∧ _ ∧ _ ∧ _ ∧ r2 < W.heap.size))
              have HDST := hid (fun (W : World) (h : Fr (fun _ => False) w5 W) => (⟨h.cell p0 (fun h => h), h.cell p1 (fun h => h), h.cell p2 (fun h => h), Nat.lt_of_lt_of_le lr1 h.size⟩ : _ ∧ _ ∧ _ ∧ r1 < W.heap.size))
              clear p0 p1 p2 q0 q1 q2 q3 lr1 lr2 h2 hj
              go_wp2_with (first | ((with_reducible apply wpList_allocA (ty := 37) (dst := some 18) #[.int .i64 0, .string ⟨#[]⟩, .int .i64 0, .int .i64 0]); (case zai => exact zWD); (case zac => rfl); intro wx2 hb hf hs; have HB12 := hid hb; have HQ12 := hid (HQ.out.trans hf (fun _ _ h => h)); clear hb hf hs) | ((with_reducible apply wpList_storeA (b := wr.heap.size) (C := #[.int .i64 0, .string ⟨#[]⟩, .int .i64 0, .int .i64 0]) (cells := #[.int .i64 0, .string ⟨#[]⟩, .int .i64 0, .int .i64 0]) (T := 37)); (case zsx => rfl); (case zsy => rfl); (case zsn => rfl); (case zsi => exact szWD); (case zs1 => rfl); (case zsb => exact HB12.out); intro wx3 hb hf hs; have HB13 := hid hb; have HQ13 := hid (HQ12.out.trans hf (fun z hz e => by have h1 : z = wr.heap.size := e; have h2 := HSZ.out; omega)); obtain ⟨q0, q1, q2, q3, lq⟩ := HSRC.out _ HQ13.out; clear hb hf hs) | ((with_reducible apply wpList_storeA (b := wr.heap.size) (C := #[.int .i64 0, .string ⟨#[]⟩, .int .i64 0, .int .i64 0]) (cells := #[.int .i64 x0, .string x1, .int .i64 x2, .int .i64 x3]) (T := 37)); (case zsx => rfl); (case zsy => rfl); (case zsn => rfl); (case zsi => exact szWD); (case zs1 => rfl); (case zsb => exact HB13.out); intro wx4 hb hf hs; have HB14 := hid hb; have HQ14 := hid (HQ13.out.trans hf (fun z hz e => by have h1 : z = wr.heap.size := e; have h2 := HSZ.out; omega)); (clear q0 q1 q2 q3 lq); (obtain ⟨p0, p1, p2, lp⟩ := HDST.out _ HQ14.out); have d0 := HB14.out.cell 0; have d1 := HB14.out.cell 1; have d2 := HB14.out.cell 2; have ld := HB14.out.lt; clear hb hf hs) | still_step | (with_reducible first | refine wpStill_nil ?_ | refine Flow.Both.mk ?_ ?_ | exact True.intro) | (with_reducible refine Flow.same_mk rfl rfl rfl ?_; go_simp; done) | (with_reducible exact Flow.same_un rfl rfl rfl) | (refine Flow.region_still mixed ?hB ?_; (case hB => decide +kernel)))
              go_roundw
              case rel => exact ⟨k + 1, by omega, rfl, by first | exact HQ14.out | exact HQ14.out.drew⟩
              case measure => simp [intOf]; omega
          · have hlt2 : ¬ (k : Int) < (NC : Int) - 1 := by omega
            go_wp2_with (first | still_step | (with_reducible first | refine wpStill_nil ?_ | refine Flow.Both.mk ?_ ?_ | exact True.intro) | (with_reducible refine Flow.same_mk rfl rfl rfl ?_; go_simp; done) | (with_reducible exact Flow.same_un rfl rfl rfl) | (refine Flow.region_still mixed ?hB ?_; (case hB => decide +kernel)))
            go_ret
            exact ⟨rfl, HF5.out.trans HQ.out (fun _ _ h => h)⟩
theorem lexnotes_walk (s n t : ByteArray) (w : World) (ht : Tabs w) (h1 : s.size ≤ 140737488351232) (h2 : n.size ≤ 140737488351232) (h3 : t.size ≤ 140737488351232) : Calls Tryd.prog 6 #[.string s, .string n, .string t] w fun e w' => e = .returned (.bool true) ∧ Below w.heap.size w w' := by
  rw [show s = ⟨s.data.toList.toArray⟩ by simp, show n = ⟨n.data.toList.toArray⟩ by simp, show t = ⟨t.data.toList.toArray⟩ by simp]
  exact (lexnotes_l _ _ _ w ht ⟨by simpa using h1, by simpa using h2, by simpa using h3⟩).mono fun e w' h => ⟨h.1, h.2.below (Nat.le_refl _) (fun _ _ h => h)⟩
end Go.Proofs.YtfiebpcambdbaaaDoor
