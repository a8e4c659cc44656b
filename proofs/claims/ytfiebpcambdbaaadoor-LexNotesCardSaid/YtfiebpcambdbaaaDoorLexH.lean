/-
  What lex.sign answers.
-/
import Derived.Test.YtfiebpcambdbaaaDoorLexG
set_option linter.unusedVariables false
set_option linter.unusedSimpArgs false
set_option maxHeartbeats 4000000
set_option maxRecDepth 8000
namespace Go.Proofs.YtfiebpcambdbaaaDoor
open Go.RowKit Go.Shelf Go.Proofs.YtfiebpcambdbaaaDoor.Lex
attribute [local go_sem] Oper.semAt_some
attribute [local irreducible] wpStill wpList Calls CallsIn

theorem hasp_any (s : B) (x : ByteArray) (w : World) : Calls Tryd.prog 27 #[.string ⟨s.toArray⟩, .string x] w fun e w' => e = .returned (.bool (pfx s x)) ∧ w' = w := by
  have h := Tryd.strings_HasPrefix ⟨s.toArray⟩ x w
  refine h.mono ?_
  rintro e w' ⟨rfl, hb⟩
  exact ⟨rfl, hb⟩
theorem headD_mk (s : B) (h : 0 < s.length) (h2 : 0 < (⟨s.toArray⟩ : ByteArray).size) : (⟨s.toArray⟩ : ByteArray)[0]'h2 = s.headD 0 := by
  match s, h with
  | a :: r, _ => rfl
theorem take_one (s : B) (h : 0 < s.length) : s.take 1 = [s.headD 0] := by
  match s, h with
  | a :: r, _ => rfl

set_option maxRecDepth 100000 in
theorem sign_is (s : B) (w : World) (hs : s.length ≤ 1000000) (ht : Tabs w) :
    Calls Tryd.prog 32 #[.string ⟨s.toArray⟩] w fun e w' => e = .returned (.string ⟨(sgB s).toArray⟩) ∧ Fr (fun _ => False) w w' := by
  have HS := hid hs
  obtain ⟨sv, hsv⟩ : ∃ sv : ByteArray, sv = ⟨s.toArray⟩ := ⟨_, rfl⟩
  rw [← hsv]
  have HSV := hid hsv
  have hsz : sv.size = s.length := by rw [hsv]; exact mk_size s
  have HSZ := hid hsz
  have HT := hid ht
  have hbig := ht.big
  clear ht hs hsv hsz
  refine (callsIn_wide (n := 6)).1 ?_
  refine callsIn_of_wp_marks Tryd.func32 rfl trivial ?_ rfl
  simp only [Tryd.ntmps32, List.size_toArray, List.length_cons, List.length_nil, Nat.reduceAdd, Nat.reduceSub, Array.replicate_succ, Array.replicate_zero, List.push_toArray, List.append_toArray, List.nil_append, List.cons_append]
  gi_wp2_with (first | (refine ⟨trivial, ?_⟩; gi_at_call 47; refine (callsIn_wide.2 (fseq_yes _ _)).mono ?_; rintro e w2 ⟨rfl, rfl⟩))
  have k0 : Blk (((w.alloc (.cells #[.string sv] 9)).alloc (.cells #[.string ⟨#[]⟩] 9)).alloc (.cells #[.string pairsV] 9)) w.heap.size #[.string sv] 9 := ((Blk.new w _ _).alloc _).alloc _
  have k1 : Blk (((w.alloc (.cells #[.string sv] 9)).alloc (.cells #[.string ⟨#[]⟩] 9)).alloc (.cells #[.string pairsV] 9)) (w.heap.size + 1) #[.string ⟨#[]⟩] 9 := by
    have h := (Blk.new (w.alloc (.cells #[.string sv] 9)) #[.string ⟨#[]⟩] 9).alloc (.cells #[.string pairsV] 9)
    simpa using h
  have k2 : Blk (((w.alloc (.cells #[.string sv] 9)).alloc (.cells #[.string ⟨#[]⟩] 9)).alloc (.cells #[.string pairsV] 9)) (w.heap.size + 1 + 1) #[.string pairsV] 9 := by
    have h := Blk.new ((w.alloc (.cells #[.string sv] 9)).alloc (.cells #[.string ⟨#[]⟩] 9)) #[.string pairsV] 9
    simpa using h
  have hB0 : Below w.heap.size w (((w.alloc (.cells #[.string sv] 9)).alloc (.cells #[.string ⟨#[]⟩] 9)).alloc (.cells #[.string pairsV] 9)) := ((((Fr.refl (fun _ => False) w).alloc _).alloc _).alloc _).below (Nat.le_refl _) (fun _ _ h => h)
  have hs0 : (((w.alloc (.cells #[.string sv] 9)).alloc (.cells #[.string ⟨#[]⟩] 9)).alloc (.cells #[.string pairsV] 9)).heap.size = w.heap.size + 3 := by simp
  have hT0 : Tabs (((w.alloc (.cells #[.string sv] 9)).alloc (.cells #[.string ⟨#[]⟩] 9)).alloc (.cells #[.string pairsV] 9)) := HT.out.fr (by (with_reducible repeat' (first | exact Fr.refl _ _ | apply Fr.alloc | apply Fr.drew | apply Fr.drewN | refine Fr.setCell ?_ ?_ _)))
  have c0 := k0.cell 0
  have c1 := k1.cell 0
  have c2 := k2.cell 0
  have f1 := k1.free 0
  simp at c0 c1 c2
  clear k0 k1 k2
  rw [show (⟨#[38, 38, 32, 124, 124, 32, 61, 61, 32, 33, 61, 32, 60, 61, 32, 62, 61, 32, 60, 60, 32, 62, 62]⟩ : ByteArray) = pairsV from rfl]
  generalize hW0 : ((w.alloc (.cells #[.string sv] 9)).alloc (.cells #[.string ⟨#[]⟩] 9)).alloc (.cells #[.string pairsV] 9) = W0 at *
  clear hW0
  refine wpIn_rangeFunc_ownH (α := ByteArray) rfl (by omega) (gf := 55) (lb := #[.pointer (some ⟨w.heap.size + 1 + 1, 0, none⟩)]) rfl trivial (enters_of Tryd.func55 (by kernel_rfl) rfl)
    (fseq_stops (6 - 1) (by omega) (w.heap.size + 1 + 1) W0.heap.size W0 (by omega) (Nat.le_refl _) (by omega) c2 hT0.spc) belowK_t (belowK_b (Nat.le_refl _)) (Below.refl _ _) (fun _ => rfl)
    (fun pre W => ((∀ y ∈ pre, pfx s y = false) ∧ W.cell? ⟨w.heap.size, 0, none⟩ = some (.string sv) ∧ W.cell? ⟨w.heap.size + 1, 0, none⟩ = some (.string ⟨#[]⟩) ∧ W.frozen? ⟨w.heap.size + 1, 0, none⟩ = false ∧ W0.heap.size ≤ W.heap.size) ∧ Below w.heap.size w W)
    (fun c pre W => (c = .ret ∧ ∃ pre' x, pre = pre' ++ [x] ∧ pfx s x = true ∧ W.cell? ⟨w.heap.size + 1, 0, none⟩ = some (.string x)) ∧ Below w.heap.size w W)
    (OwnFrom.and (Own.from (fun s A B row hs hg hr => ⟨hs.1, cell_kept hs.2.1 hg hr, cell_kept hs.2.2.1 hg hr, (frozen_kept hs.2.2.1 hg hr).trans hs.2.2.2.1, Nat.le_trans hs.2.2.2.2 hg.size⟩) _) (ownFrom_below (Nat.le_refl _) (by omega)))
    (fun c => OwnFrom.and (Own.from (fun s A B row hs hg hr => ⟨hs.1, let ⟨pre', x, e, hp, h1⟩ := hs.2; ⟨pre', x, e, hp, cell_kept h1 hg hr⟩⟩) _) (ownFrom_below (Nat.le_refl _) (by omega)))
    ⟨⟨by simp, c0, c1, f1, Nat.le_refl _⟩, hB0⟩
    (fun x a' _ => a' = { tmps := #[.string sv, .pointer (some ⟨w.heap.size, 0, none⟩), .pointer (some ⟨w.heap.size + 1, 0, none⟩), .string x, undef, undef, .func (.func 55) #[] #[.pointer (some ⟨w.heap.size + 1 + 1, 0, none⟩)], .string x, undef, undef, undef, undef, undef, undef, undef, undef, undef, undef, undef, undef, undef], defers := [] })
    (fun x a' => Own.from (fun s A B row hs hg hr => hs) _) ?assign ?body ?done ?stop
  case assign =>
    rintro lp pre x W K hI hK
    gi_wp2
    exact hK _ _ (KeepsFrom.refl _ _) (Below.refl _ _) hI rfl
  case body =>
    rintro lp pre x ax W hl ⟨rr, hr⟩ ⟨⟨hp, h0, h1, g1, hsz⟩, hB⟩ rfl hlt
    have HP := hid hp
    have HB2 := hid hB
    have HPX := hid (hasp_any s x)
    rw [← HSV.out] at HPX
    have hn1 : 1 ≤ 6 - 1 - 1 := by omega
    clear hp hB hr
    cases hx : pfx s x with
    | true =>
      rw [hx] at HPX
      have HX := hid hx
      clear hx
      gi_wp2_with (first | (refine ⟨trivial, ?_⟩; gi_at_call 27; refine (CallsIn.inRound lp (callsIn_wide.2 (HPX.out _))).mono ?_; rintro e w3 ⟨rfl, rfl⟩))
      refine ⟨(KeepsOthers.setCell _ _ _).from _, ⟨rfl, pre, x, rfl, HX.out, ?_⟩, ?_⟩
      · exact World.cell?_setCell_same _ _ _ h1
      · exact HB2.out.setCell (by simp) _
    | false =>
      rw [hx] at HPX
      have HX := hid hx
      clear hx
      gi_wp2_with (first | (refine ⟨trivial, ?_⟩; gi_at_call 27; refine (CallsIn.inRound lp (callsIn_wide.2 (HPX.out _))).mono ?_; rintro e w3 ⟨rfl, rfl⟩))
      refine ⟨KeepsFrom.refl _ _, Below.refl _ _, ⟨fun y hy => ?_, h0, h1, g1, hsz⟩, HB2.out⟩
      rcases List.mem_append.1 hy with h | h
      · exact HP.out y h
      · simp at h; subst h; exact HX.out
  case done =>
    rintro D ys W hD rfl ⟨⟨hp, h0, h1, g1, hsz⟩, hB⟩ hK
    have HG := hid (sg_miss hp)
    have HB2 := hid hB
    have HK := hid hK
    have HD := hid hD
    have hbs := hB.size
    have hlD : D < W.heap.size := (Array.getElem?_eq_some_iff.1 hK).1
    clear hp hB hK
    have hBit : ∀ p, Below W.heap.size W ((W.iter sv 0).iterAt W.heap.size sv p) := fun p => Lib.below_iterAt ((Below.refl _ W).alloc (Nat.le_refl _) _) (Nat.le_refl _) sv p
    have fin : ∀ (W2 : World) (x : ByteArray), Fr (fun _ => False) W W2 →
        (W2.setCell ⟨w.heap.size + 1, 0, none⟩ (.string x)).heap[D]? = some (.deferred (some [])) ∧ (W2.setCell ⟨w.heap.size + 1, 0, none⟩ (.string x)).cell? ⟨w.heap.size + 1, 0, none⟩ = some (.string x) ∧ Below w.heap.size w (W2.setCell ⟨w.heap.size + 1, 0, none⟩ (.string x)) := fun W2 x hf => by
      refine ⟨?_, ?_, ?_⟩
      · exact (KeepsOthers.setCell W2 ⟨w.heap.size + 1, 0, none⟩ (.string x)).same D _ ((hf.block D hlD (fun h => h)).trans HK.out) rfl
      · exact World.cell?_setCell_same _ _ _ (hf.cell h1 (fun h => h))
      · exact (HB2.out.trans (hf.below hbs (fun _ _ h => h))).setCell (by simp) _
    have FIN := hid fin
    clear fin
    by_cases he : s = []
    · have h0s : ¬ 0 < sv.size := by have := HSZ.out; rw [he] at this; simp only [List.length_nil] at this; omega
      have hx : (⟨#[]⟩ : ByteArray) = ⟨(sgB s).toArray⟩ := by subst he; rfl
      have HX := hid hx
      clear hx
      gi_wp2
      gi_loopw [] (fun wr => wr = W.iter sv 0) (fun _ => 0)
      case atStart => rfl
      case round =>
        subst hrel
        have hit : (W.iter sv 0).heap[W.heap.size]? = some (.stringIter sv 0) := World.iter_heap W sv 0
        have hnx : ∀ ty, (Instr.next (.pointer (some ⟨W.heap.size, 0, none⟩)) true ty).run Tryd.prog (W.iter sv 0) = _ := fun ty => Lib.run_next_end_at (W.iter sv 0) W.heap.size sv 0 ty hit h0s
        have hf : Fr (fun _ => False) W (W.iter sv 0) := (Fr.refl _ W).alloc _
        have h1' := hf.cell h1 (fun h => h)
        have g1' := (show (W.iter sv 0).frozen? ⟨w.heap.size + 1, 0, none⟩ = W.frozen? ⟨w.heap.size + 1, 0, none⟩ from hf.frozen (by dsimp only; omega) (fun h => h)).trans g1
        have HF := hid hf
        have HN := hid hnx
        generalize W.iter sv 0 = W2 at *
        have hnx2 := HN.out
        gi_wp2
        obtain ⟨e1, e2, e3⟩ := FIN.out W2 ⟨#[]⟩ HF.out
        refine ⟨by simp, .inl ⟨_, _, rfl, run_takeDeferred e1, ?_⟩⟩
        have c1 := cell_kept e2 (grownBy_putObj' _ D (.deferred none)) (fun r e => by cases e; exact ⟨_, e1, rfl⟩)
        refine ⟨.string ⟨#[]⟩, ?_, by rw [← HX.out], ?_⟩
        · simp [results, Tryd.f32, go_sem, c1]
        · have hb := e3.trans (belowK_b (w := w) (Nat.le_refl _) _ D _ (.deferred none) (by have := HD.out; omega) e1 rfl rfl)
          exact (Fr.of_below hb).mono (fun k hk h => by omega)
    · have hpos : 0 < s.length := List.length_pos_iff.2 he
      have h0s : 0 < sv.size := by have := HSZ.out; omega
      obtain ⟨a, ha⟩ : ∃ a, a = s.headD 0 := ⟨_, rfl⟩
      have hg0 : sv[0]'h0s = a := by
        have := HSV.out
        subst this
        rw [ha]
        exact headD_mk s hpos _
      have HG0 := hid hg0
      have hgg := HG.out
      rw [← ha] at hgg
      by_cases hlow : a.toNat < 128
      · have hnx0 : ∀ ty, (Instr.next (.pointer (some ⟨W.heap.size, 0, none⟩)) true ty).run Tryd.prog (W.iter sv 0) = _ := fun ty => Lib.run_next_ascii_at (W.iter sv 0) W.heap.size sv 0 ty (World.iter_heap W sv 0) h0s (by rw [hg0]; exact hlow)
        rw [hg0] at hnx0
        have HN0 := hid hnx0
        have HC := hid (cont_low a hlow)
        have hf1 : Fr (fun _ => False) W ((W.iter sv 0).iterAt W.heap.size sv (0 + 1)) := Fr.of_below0 (hBit _)
        have h1' := hf1.cell h1 (fun h => h)
        have g1' := (show ((W.iter sv 0).iterAt W.heap.size sv (0 + 1)).frozen? ⟨w.heap.size + 1, 0, none⟩ = W.frozen? ⟨w.heap.size + 1, 0, none⟩ from hf1.frozen (by dsimp only; omega) (fun h => h)).trans g1
        have HF := hid hf1
        clear hnx0 hf1 hg0
        cases hc : signsB.contains a with
        | true =>
          rw [hc] at HC
          rw [if_pos hc, take_one s hpos, ← ha] at hgg
          have hen : Utf8.encode (a.toNat : Int) = ⟨(sgB s).toArray⟩ := by
            rw [hgg]
            have hv : Utf8.valid (a.toNat : Int) = true := by rw [validRune_eq]; unfold validRune; simp; omega
            have h128 : ((a.toNat : Int)).toNat < 128 := by omega
            unfold Utf8.encode
            simp only [hv, if_true, h128]
            have : UInt8.ofNat ((a.toNat : Int)).toNat = a := by rw [Int.toNat_natCast]; exact UInt8.ofNat_toNat
            rw [this]
          obtain ⟨x, hx0⟩ : ∃ x, x = Utf8.encode (a.toNat : Int) := ⟨_, rfl⟩
          have HX := hid (show x = ⟨(sgB s).toArray⟩ from hx0.trans hen)
          have HX0 := hid hx0
          generalize ha3 : (a.toNat : Int) = an at *
          clear ha3 hen hgg hlow hc hx0 ha
          gi_wp2
          gi_loopw [] (fun wr => wr = W.iter sv 0) (fun _ => 0)
          case atStart => rfl
          case round =>
            subst hrel
            have hnx := HN0.out
            generalize W.iter sv 0 = W2 at *
            generalize W2.iterAt W.heap.size sv (0 + 1) = W3 at *
            gi_wp2_with (first | (refine ⟨trivial, ?_⟩; gi_at_call 48; refine (callsIn_wide.2 (HC.out _)).mono ?_; rintro e w5 ⟨rfl, rfl⟩) | (rw [← HX0.out]))
            obtain ⟨e1, e2, e3⟩ := FIN.out _ x HF.out
            refine ⟨by simp, .inl ⟨_, _, rfl, run_takeDeferred e1, ?_⟩⟩
            have c1 := cell_kept e2 (grownBy_putObj' _ D (.deferred none)) (fun r e => by cases e; exact ⟨_, e1, rfl⟩)
            refine ⟨.string x, ?_, by rw [← HX.out], ?_⟩
            · simp [results, Tryd.f32, go_sem, c1]
            · have hb := e3.trans (belowK_b (w := w) (Nat.le_refl _) _ D _ (.deferred none) (by have := HD.out; omega) e1 rfl rfl)
              exact (Fr.of_below hb).mono (fun k hk h => by omega)
        | false =>
          rw [hc] at HC
          rw [if_neg (by rw [hc]; simp)] at hgg
          have HX := hid (show (⟨#[]⟩ : ByteArray) = ⟨(sgB s).toArray⟩ by rw [hgg])
          generalize ha3 : (a.toNat : Int) = an at *
          clear ha3 hgg hlow hc ha
          gi_wp2
          gi_loopw [] (fun wr => wr = W.iter sv 0) (fun _ => 0)
          case atStart => rfl
          case round =>
            subst hrel
            have hnx := HN0.out
            generalize W.iter sv 0 = W2 at *
            generalize W2.iterAt W.heap.size sv (0 + 1) = W3 at *
            gi_wp2_with (first | (refine ⟨trivial, ?_⟩; gi_at_call 48; refine (callsIn_wide.2 (HC.out _)).mono ?_; rintro e w5 ⟨rfl, rfl⟩))
            obtain ⟨e1, e2, e3⟩ := FIN.out _ ⟨#[]⟩ HF.out
            refine ⟨by simp, .inl ⟨_, _, rfl, run_takeDeferred e1, ?_⟩⟩
            have c1 := cell_kept e2 (grownBy_putObj' _ D (.deferred none)) (fun r e => by cases e; exact ⟨_, e1, rfl⟩)
            refine ⟨.string ⟨#[]⟩, ?_, by rw [← HX.out], ?_⟩
            · simp [results, Tryd.f32, go_sem, c1]
            · have hb := e3.trans (belowK_b (w := w) (Nat.le_refl _) _ D _ (.deferred none) (by have := HD.out; omega) e1 rfl rfl)
              exact (Fr.of_below hb).mono (fun k hk h => by omega)
      · have hnx0 : ∀ ty, (Instr.next (.pointer (some ⟨W.heap.size, 0, none⟩)) true ty).run Tryd.prog (W.iter sv 0) = _ := fun ty => Lib.run_next_any_at (W.iter sv 0) W.heap.size sv 0 ty (World.iter_heap W sv 0) h0s
        have hd := decode_high sv 0 h0s (by rw [hg0]; omega)
        have hd2 := decode_le sv 0
        have hBit0 := hBit (0 + (Utf8.decode sv 0).2)
        generalize Utf8.decode sv 0 = d at *
        obtain ⟨d1, d2⟩ := d
        dsimp only at hd hd2 hnx0 hBit0
        have HN0 := hid hnx0
        have HC := hid (cont_high (d1 : Int) (by omega) (by omega))
        have hcf : signsB.contains a = false := by
          cases hc : signsB.contains a with
          | false => rfl
          | true => exact absurd (signs_low a (by simpa using hc)) hlow
        rw [if_neg (by rw [hcf]; simp)] at hgg
        have HX := hid (show (⟨#[]⟩ : ByteArray) = ⟨(sgB s).toArray⟩ by rw [hgg])
        have hf1 : Fr (fun _ => False) W ((W.iter sv 0).iterAt W.heap.size sv (0 + d2)) := Fr.of_below0 hBit0
        have HF1 := hid hf1
        clear hnx0 hf1 hg0 hBit0 hBit hgg hcf hd hd2 hlow ha
        gi_wp2
        gi_loopw [] (fun wr => wr = W.iter sv 0) (fun _ => 0)
        case atStart => rfl
        case round =>
          subst hrel
          have hnx := HN0.out
          generalize W.iter sv 0 = W2 at *
          generalize W2.iterAt W.heap.size sv (0 + d2) = W3 at *
          gi_wp2_with (first | (refine ⟨trivial, ?_⟩; gi_at_call 48; refine (callsIn_wide.2 (HC.out _)).mono ?_; rintro e w5 ⟨rfl, hf5⟩; have HF := hid (HF1.out.trans hf5 (fun _ _ h => h)); have h1' := HF.out.cell h1 (fun h => h); have g1' := (show w5.frozen? ⟨w.heap.size + 1, 0, none⟩ = W.frozen? ⟨w.heap.size + 1, 0, none⟩ from HF.out.frozen (by dsimp only; omega) (fun h => h)).trans g1; clear hf5))
          obtain ⟨e1, e2, e3⟩ := FIN.out _ ⟨#[]⟩ HF.out
          refine ⟨by simp, .inl ⟨_, _, rfl, run_takeDeferred e1, ?_⟩⟩
          have c1 := cell_kept e2 (grownBy_putObj' _ D (.deferred none)) (fun r e => by cases e; exact ⟨_, e1, rfl⟩)
          refine ⟨.string ⟨#[]⟩, ?_, by rw [← HX.out], ?_⟩
          · simp [results, Tryd.f32, go_sem, c1]
          · have hb := e3.trans (belowK_b (w := w) (Nat.le_refl _) _ D _ (.deferred none) (by have := HD.out; omega) e1 rfl rfl)
            exact (Fr.of_below hb).mono (fun k hk h => by omega)
  case stop =>
    rintro D c pre W hD ⟨k, hk, hpre⟩ ⟨⟨rfl, pre', x, rfl, hp, h1⟩, hB⟩ hK
    have HG := hid (sg_hit hk hpre hp)
    have HB2 := hid hB
    have HK := hid hK
    have HD := hid hD
    clear hpre hp hB hK hD
    gi_wp2
    refine ⟨by simp, .inl ⟨_, _, rfl, run_takeDeferred HK.out, ?_⟩⟩
    have c1 := cell_kept h1 (grownBy_putObj' _ D (.deferred none)) (fun r e => by cases e; exact ⟨_, HK.out, rfl⟩)
    refine ⟨.string x, ?_, by rw [← HG.out], ?_⟩
    · simp [results, Tryd.f32, go_sem, c1]
    · have hb := HB2.out.trans (belowK_b (w := w) (Nat.le_refl _) W D _ (.deferred none) (by have := HD.out; omega) HK.out rfl rfl)
      exact (Fr.of_below hb).mono (fun k hk h => by omega)
end Go.Proofs.YtfiebpcambdbaaaDoor
