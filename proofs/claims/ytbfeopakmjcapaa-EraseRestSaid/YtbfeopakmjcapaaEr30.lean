/-
  Rest of package erase: what is to be taken back.
-/
import Derived.Test.YtbfeopakmjcapaaSpRow
set_option linter.unusedVariables false
set_option linter.unusedSimpArgs false
set_option maxHeartbeats 4000000
set_option maxRecDepth 8000
namespace Go.Proofs.Ytbfeopakmjcapaa.Sp
open Go.RowKit Go.Proofs.Ytbfeopakmjcapaa.Seq Go.Proofs.Ytbfeopakmjcapaa.Tso
attribute [local irreducible] wpStill wpList Calls CallsIn

/-- What is to be taken back so that no guess of the first threads is open. -/
def restD (s : SM) : Nat → List (Int × Int)
  | 0 => []
  | k + 1 => restD s k ++ List.replicate (s.count k) (4, (k : Int))
theorem restD_len {s : SM} (h : OkS s) : ∀ k, (restD s k).length ≤ k * 64
  | 0 => Nat.le_refl _
  | k + 1 => by
    have h1 := restD_len h k
    have h2 := count_le h k
    have h3 := h.win
    rw [restD, List.length_append, List.length_replicate]
    omega
theorem dosC_app (a b : List (Int × Int)) : dosC (a ++ b) = dosC a ++ dosC b := by simp [dosC]
theorem infoDOr : (Try.prog.info? 41).map (fun i => (i.zero, i.size, i.bytes)) = some (some (.agg #[.int .i64 0, .int .i64 0]), 2, 16) := by kernel_rfl

theorem rest_is (SB : Nat) (R : Nat → Prop) (s : SM) (n : Nat) (w : World) (h : SR w R SB s) (hok : OkS s) (hn : n ≤ 1000) :
    Calls Try.prog 25 #[.pointer (some ⟨SB, 0, none⟩), .int .i64 n] w fun e w' => ∃ a c, e = .returned (.slice a (restD s n).length c) ∧ OwnAt w' 41 2 (fun z => w.heap.size ≤ z) a (restD s n).length c (dosC (restD s n)) ∧ Fr (fun _ => False) w w' := by
  obtain ⟨i0, hi0, hz0, hz1, hz2⟩ := info_parts infoDOr
  have HS := hid h
  have HOK := hid hok
  clear h hok
  go_enter Try.func25, Try.ntmps25
  go_wp2_with (first | still_step | (with_reducible first | refine wpStill_nil ?_ | refine Flow.Both.mk ?_ ?_ | exact True.intro) | (with_reducible refine Flow.same_mk rfl rfl rfl ?_; go_simp; done) | (with_reducible exact Flow.same_un rfl rfl rfl) | (refine Flow.region_still mixed ?hB ?_; (case hB => decide +kernel)))
  go_loopw [5, 9] (fun out i wr => ∃ (k : Nat) (a : Option Addr) (c : Nat), k ≤ n ∧ i = .int .i64 k ∧ out = .slice a (restD s k).length c ∧ OwnAt wr 41 2 (fun z => w.heap.size ≤ z) a (restD s k).length c (dosC (restD s k)) ∧ Fr (fun _ => False) w wr) (fun _ i _ => n - (intOf i).toNat)
  case atStart => exact ⟨0, none, 0, Nat.zero_le _, rfl, rfl, OwnAt.nil _ _ _ _ _, Fr.refl _ _⟩
  case round =>
    obtain ⟨k, a, c, hk, rfl, rfl, ho, hf⟩ := hrel
    have HO := hid ho
    have HF := hid hf
    have hrl := restD_len HOK.out k
    obtain ⟨L, hL⟩ : ∃ L, L = restD s k := ⟨_, rfl⟩
    rw [← hL] at HO hrl ⊢
    have HL := hid hL
    obtain ⟨LL, hLL⟩ : ∃ LL, LL = L.length := ⟨_, rfl⟩
    have HLL := hid hLL
    rw [← hLL] at HO hrl ⊢
    clear ho hf hL hLL
    by_cases hlt : k < n
    · go_wp2_with (first | still_step | (with_reducible first | refine wpStill_nil ?_ | refine Flow.Both.mk ?_ ?_ | exact True.intro) | (with_reducible refine Flow.same_mk rfl rfl rfl ?_; go_simp; done) | (with_reducible exact Flow.same_un rfl rfl rfl) | (refine Flow.region_still mixed ?hB ?_; (case hB => decide +kernel)))
      go_at_call 17
      refine (count_is SB R s k _ (HS.out.fr (HF.out.trans (show Fr (fun _ => False) wr _ by (with_reducible repeat' (first | exact Fr.refl _ _ | apply Fr.alloc | apply Fr.drew | apply Fr.drewN | refine Fr.setCell ?_ ?_ _))) (fun _ _ h => h)) (fun _ _ h => h))).mono ?_
      rintro e w3 ⟨rfl, hf3⟩
      have hf13 := (show Fr (fun _ => False) wr _ by (with_reducible repeat' (first | exact Fr.refl _ _ | apply Fr.alloc | apply Fr.drew | apply Fr.drewN | refine Fr.setCell ?_ ?_ _))).trans hf3 (fun _ _ h => h)
      have HO3 := hid (HO.out.fr hf13 (fun _ _ h => h))
      have HF3 := hid (HF.out.trans hf13 (fun _ _ h => h))
      have hc1 := count_le HOK.out k
      have hc2 := HOK.out.win
      obtain ⟨CN, hCN⟩ : ∃ CN, CN = s.count k := ⟨_, rfl⟩
      have HCN := hid hCN
      rw [← hCN] at hc1 ⊢
      clear hf3 hf13 hCN HO HF
      go_wp2_with (first | still_step | (with_reducible first | refine wpStill_nil ?_ | refine Flow.Both.mk ?_ ?_ | exact True.intro) | (with_reducible refine Flow.same_mk rfl rfl rfl ?_; go_simp; done) | (with_reducible exact Flow.same_un rfl rfl rfl) | (refine Flow.region_still mixed ?hB ?_; (case hB => decide +kernel)))
      go_loopw [5, 15] (fun out i wr => ∃ (j : Nat) (a : Option Addr) (c : Nat), j ≤ CN ∧ i = .int .i64 j ∧ out = .slice a (LL + j) c ∧ OwnAt wr 41 2 (fun z => w.heap.size ≤ z) a (LL + j) c (dosC (L ++ List.replicate j (4, (k : Int)))) ∧ Fr (fun _ => False) w wr) (fun _ i _ => CN - (intOf i).toNat)
      case atStart => exact ⟨0, a, c, Nat.zero_le _, rfl, rfl, by simpa using HO3.out.fr (S := fun _ => False) (show Fr (fun _ => False) w3 _ by (with_reducible repeat' (first | exact Fr.refl _ _ | apply Fr.alloc | apply Fr.drew | apply Fr.drewN | refine Fr.setCell ?_ ?_ _))) (fun _ _ h => h), HF3.out.trans (show Fr (fun _ => False) w3 _ by (with_reducible repeat' (first | exact Fr.refl _ _ | apply Fr.alloc | apply Fr.drew | apply Fr.drewN | refine Fr.setCell ?_ ?_ _))) (fun _ _ h => h)⟩
      case round =>
        obtain ⟨j, a, c, hj, rfl, rfl, ho, hf⟩ := hrel
        have HO := hid ho
        have HF := hid hf
        clear ho hf HO3 HF3
        by_cases hlj : j < CN
        · go_wp2_with (first | (at_builtin; refine wpList_append_Own _ rfl (.tmp 17) (.tmp 20) 27 rfl 41 i0 (.agg #[.int .i64 0, .int .i64 0]) 2 16 Try.underlying27 hi0 hz0 hz1 hz2 rfl (by decide) (fun z => w.heap.size ≤ z) (fun _ => True) a (LL + j) c (dosC (L ++ List.replicate j (4, (k : Int)))) rfl ?own (some ⟨wr.heap.size, 0, none⟩) 1 1 (dosC [(4, (k : Int))]) rfl ?vw ?one ?b1 ?b2 ?grow) | still_step | (with_reducible first | refine wpStill_nil ?_ | refine Flow.Both.mk ?_ ?_ | exact True.intro) | (with_reducible refine Flow.same_mk rfl rfl rfl ?_; go_simp; done) | (with_reducible exact Flow.same_un rfl rfl rfl) | (refine Flow.region_still mixed ?hB ?_; (case hB => decide +kernel)))
          case own => exact HO.out.fr (S := fun _ => False) (by (with_reducible repeat' (first | exact Fr.refl _ _ | apply Fr.alloc | apply Fr.drew | apply Fr.drewN | refine Fr.setCell ?_ ?_ _))) (fun _ _ h => h)
          case vw => exact Vw.of_blk (sz := 2) (n := 1) (R := fun _ => True) (Blk.new wr #[.int .i64 4, .int .i64 k] 41) trivial rfl
          case one => intro u hu; simp [dosC] at hu; rcases hu with rfl | rfl <;> rfl
          case b1 => unfold maxLen; omega
          case b2 => omega
          case grow =>
            intro ao' cap' w5 ho5 hf5
            have hfw : Fr (fun _ => False) w w5 := (HF.out.trans (show Fr (fun _ => False) wr _ by (with_reducible repeat' (first | exact Fr.refl _ _ | apply Fr.alloc | apply Fr.drew | apply Fr.drewN | refine Fr.setCell ?_ ?_ _))) (fun _ _ h => h)).trans hf5 (fun z hz h => by have h' : w.heap.size ≤ z := h; omega)
            have hwr := HF.out.size
            have HO5 := hid (ho5.mono (R2 := fun z => w.heap.size ≤ z) (fun z _ h => by
              rcases h with h | h
              · exact h
              · (try simp at h); omega))
            have HF5 := hid hfw
            clear ho5 hf5 hfw HO HF hwr
            go_wp2_with (first | still_step | (with_reducible first | refine wpStill_nil ?_ | refine Flow.Both.mk ?_ ?_ | exact True.intro) | (with_reducible refine Flow.same_mk rfl rfl rfl ?_; go_simp; done) | (with_reducible exact Flow.same_un rfl rfl rfl) | (refine Flow.region_still mixed ?hB ?_; (case hB => decide +kernel)))
            go_roundw
            case rel =>
              refine ⟨j + 1, ao', cap', by omega, by go_num, rfl, ?_, HF5.out.trans (show Fr (fun _ => False) w5 _ by (with_reducible repeat' (first | exact Fr.refl _ _ | apply Fr.alloc | apply Fr.drew | apply Fr.drewN | refine Fr.setCell ?_ ?_ _))) (fun _ _ h => h)⟩
              have h5 := HO5.out.fr (S := fun _ => False) (show Fr (fun _ => False) w5 w5 by (with_reducible repeat' (first | exact Fr.refl _ _ | apply Fr.alloc | apply Fr.drew | apply Fr.drewN | refine Fr.setCell ?_ ?_ _))) (fun _ _ h => h)
              rw [List.replicate_succ', ← List.append_assoc, dosC_app]
              exact h5
            case measure => simp [intOf]; omega
        · obtain rfl : j = CN := by omega
          have HR := hid (show L ++ List.replicate j (4, (k : Int)) = restD s (k + 1) from by rw [HL.out, HCN.out]; rfl)
          have HRL := hid (show LL + j = (restD s (k + 1)).length from by rw [← HR.out, List.length_append, List.length_replicate, ← HLL.out])
          go_wp2_with (first | still_step | (with_reducible first | refine wpStill_nil ?_ | refine Flow.Both.mk ?_ ?_ | exact True.intro) | (with_reducible refine Flow.same_mk rfl rfl rfl ?_; go_simp; done) | (with_reducible exact Flow.same_un rfl rfl rfl) | (refine Flow.region_still mixed ?hB ?_; (case hB => decide +kernel)))
          go_roundw
          case rel =>
            refine ⟨k + 1, a, c, by omega, by go_num, by rw [← HRL.out], ?_, HF.out.trans (show Fr (fun _ => False) wr _ by (with_reducible repeat' (first | exact Fr.refl _ _ | apply Fr.alloc | apply Fr.drew | apply Fr.drewN | refine Fr.setCell ?_ ?_ _))) (fun _ _ h => h)⟩
            rw [← HRL.out, ← HR.out]
            exact HO.out.fr (S := fun _ => False) (by (with_reducible repeat' (first | exact Fr.refl _ _ | apply Fr.alloc | apply Fr.drew | apply Fr.drewN | refine Fr.setCell ?_ ?_ _))) (fun _ _ h => h)
          case measure => simp [intOf]; omega
    · obtain rfl : k = n := by omega
      go_wp2_with (first | still_step | (with_reducible first | refine wpStill_nil ?_ | refine Flow.Both.mk ?_ ?_ | exact True.intro) | (with_reducible refine Flow.same_mk rfl rfl rfl ?_; go_simp; done) | (with_reducible exact Flow.same_un rfl rfl rfl) | (refine Flow.region_still mixed ?hB ?_; (case hB => decide +kernel)))
      go_ret
      rw [← HL.out, ← HLL.out]
      exact ⟨a, c, rfl, HO.out.fr (S := fun _ => False) (by (with_reducible repeat' (first | exact Fr.refl _ _ | apply Fr.alloc | apply Fr.drew | apply Fr.drewN | refine Fr.setCell ?_ ?_ _))) (fun _ _ h => h), HF.out.trans (show Fr (fun _ => False) wr _ by (with_reducible repeat' (first | exact Fr.refl _ _ | apply Fr.alloc | apply Fr.drew | apply Fr.drewN | refine Fr.setCell ?_ ?_ _))) (fun _ _ h => h)⟩
end Go.Proofs.Ytbfeopakmjcapaa.Sp

/-
  Scripts as the reference has them, and whether two are the same (palinglaw30).
-/
namespace Go.Proofs.Ytbfeopakmjcapaa.Sp
open Go.RowKit Go.Proofs.Ytbfeopakmjcapaa.Seq Go.Proofs.Ytbfeopakmjcapaa.Tso
attribute [local irreducible] wpStill wpList Calls CallsIn

theorem infoD30 : (Try.prog.info? 92).map (fun i => (i.zero, i.size, i.bytes)) = some (some (.agg #[.int .i64 0, .int .i64 0]), 2, 16) := by kernel_rfl
theorem dosC_ne {l : List (Int × Int)} {k : Nat} (h : k < l.length) : dosC l ≠ [] := fun e => by have := congrArg List.length e; rw [dosC_length] at this; simp only [List.length_nil] at this; omega

theorem plain30_is (a0 : Option Addr) (c0 : Nat) (l : List (Int × Int)) (w : World) (hv : Vw w 2 (fun _ => True) a0 l.length (dosC l)) (hl : l.length ≤ 100000) :
    Calls Try.prog 24 #[.slice a0 l.length c0] w fun e w' => ∃ a c, e = .returned (.slice a l.length c) ∧ OwnAt w' 92 2 (fun z => w.heap.size ≤ z) a l.length c (dosC l) ∧ Fr (fun _ => False) w w' := by
  obtain ⟨i0, hi0, hz0, hz1, hz2⟩ := info_parts infoD30
  have HV := hid hv
  obtain ⟨LL, hLL⟩ : ∃ LL, LL = l.length := ⟨_, rfl⟩
  have HLL := hid hLL
  rw [← hLL] at hl ⊢
  clear hv hLL
  go_enter Try.func24, Try.ntmps24
  go_wp2_with (first | still_step | (with_reducible first | refine wpStill_nil ?_ | refine Flow.Both.mk ?_ ?_ | exact True.intro) | (with_reducible refine Flow.same_mk rfl rfl rfl ?_; go_simp; done) | (with_reducible exact Flow.same_un rfl rfl rfl) | (with_reducible refine Flow.region_flow (id := 5) [0, 0, 0, 6, 14, 30, 0, 0, 192, 448, 960, 2046, 4094, 8191, 16383] 14336 1848 [(0, none), (1, none), (2, none), (3, none), (4, none), (5, none), (6, none), (7, none), (8, none), (9, none), (10, none), (11, some []), (12, some []), (13, some []), (14, none)] mixed ?hB ?_; (case hB => decide +kernel); simp only [Flow.textOf, Flow.q1, Flow.q2, Flow.q3, Flow.q4, Flow.q5, Flow.q6, Flow.q7, Flow.q8, Flow.q9, Flow.wpFl, Flow.SameAll]) | (refine Flow.region_still mixed ?hB ?_; (case hB => decide +kernel)))
  go_loopw [3, 4] (fun out i wr => ∃ (k : Nat) (a : Option Addr) (c : Nat), k ≤ LL ∧ i = .int .i64 k ∧ out = .slice a k c ∧ OwnAt wr 92 2 (fun z => w.heap.size ≤ z) a k c (dosC (l.take k)) ∧ Fr (fun _ => False) w wr) (fun _ i _ => LL - (intOf i).toNat)
  case atStart => exact ⟨0, none, 0, Nat.zero_le _, rfl, rfl, OwnAt.nil _ _ _ _ _, Fr.refl _ _⟩
  case round =>
    obtain ⟨k, a, c, hk, rfl, rfl, ho, hf⟩ := hrel
    have HO := hid ho
    have HF := hid hf
    clear ho hf
    by_cases hlt : k < LL
    · have hkl : k < l.length := by have := HLL.out; omega
      obtain ⟨r0, off0, rfl, hr0, hcell⟩ := (HV.out.fr HF.out (fun _ _ h => h)).cell (dosC_ne hkl)
      have d0 : wr.cell? ⟨r0, off0 + k * 2, none⟩ = some (.int .i64 l[k].1) := hcell (k * 2) _ (dosC_get l k hkl).1
      have d1 : wr.cell? ⟨r0, off0 + k * 2 + 1, none⟩ = some (.int .i64 l[k].2) := hcell (k * 2 + 1) _ (dosC_get l k hkl).2
      have htk : dosC (l.take (k + 1)) = dosC (l.take k) ++ dosC [l[k]] := by rw [List.take_succ_eq_append_getElem hkl, dosC_app]
      have HTK := hid htk
      have hlt2 : ((k : Nat) : Int) < (LL : Nat) := by omega
      clear hcell htk
      generalize l[k] = d at *
      obtain ⟨kind, who⟩ := d
      dsimp only at d0 d1
      go_wp2_with (first | (at_builtin; refine wpList_append_Own _ rfl (.tmp 11) (.tmp 23) 64 rfl 92 i0 (.agg #[.int .i64 0, .int .i64 0]) 2 16 Try.underlying64 hi0 hz0 hz1 hz2 rfl (by decide) (fun z => w.heap.size ≤ z) (fun _ => True) a k c (dosC (l.take k)) rfl ?own (some ⟨wr.heap.size, 0, none⟩) 1 1 (dosC [(kind, who)]) rfl ?vw ?one ?b1 ?b2 ?grow) | still_step | (with_reducible first | refine wpStill_nil ?_ | refine Flow.Both.mk ?_ ?_ | exact True.intro) | (with_reducible refine Flow.same_mk rfl rfl rfl ?_; go_simp; done) | (with_reducible exact Flow.same_un rfl rfl rfl) | (with_reducible refine Flow.region_flow (id := 5) [0, 0, 0, 6, 14, 30, 0, 0, 192, 448, 960, 2046, 4094, 8191, 16383] 14336 1848 [(0, none), (1, none), (2, none), (3, none), (4, none), (5, none), (6, none), (7, none), (8, none), (9, none), (10, none), (11, some []), (12, some []), (13, some []), (14, none)] mixed ?hB ?_; (case hB => decide +kernel); simp only [Flow.textOf, Flow.q1, Flow.q2, Flow.q3, Flow.q4, Flow.q5, Flow.q6, Flow.q7, Flow.q8, Flow.q9, Flow.wpFl, Flow.SameAll]) | (refine Flow.region_still mixed ?hB ?_; (case hB => decide +kernel)))
      case own => exact HO.out.fr (S := fun _ => False) (by (with_reducible repeat' (first | exact Fr.refl _ _ | apply Fr.alloc | apply Fr.drew | apply Fr.drewN | refine Fr.setCell ?_ ?_ _))) (fun _ _ h => h)
      case vw => exact Vw.of_blk (sz := 2) (n := 1) (R := fun _ => True) (Blk.drew (Blk.new wr #[.int .i64 kind, .int .i64 who] 92)) trivial rfl
      case one => intro u hu; simp [dosC] at hu; rcases hu with rfl | rfl <;> rfl
      case b1 => unfold maxLen; omega
      case b2 => omega
      case grow =>
        intro ao' cap' w5 ho5 hf5
        have hfw : Fr (fun _ => False) w w5 := (HF.out.trans (show Fr (fun _ => False) wr _ by (with_reducible repeat' (first | exact Fr.refl _ _ | apply Fr.alloc | apply Fr.drew | apply Fr.drewN | refine Fr.setCell ?_ ?_ _))) (fun _ _ h => h)).trans hf5 (fun z hz h => by have h' : w.heap.size ≤ z := h; omega)
        have hwr := HF.out.size
        have HO5 := hid (ho5.mono (R2 := fun z => w.heap.size ≤ z) (fun z _ h => by
          rcases h with h | h
          · exact h
          · (try simp at h); omega))
        have HF5 := hid hfw
        clear ho5 hf5 hfw HO HF hwr d0 d1
        go_wp2_with (first | still_step | (with_reducible first | refine wpStill_nil ?_ | refine Flow.Both.mk ?_ ?_ | exact True.intro) | (with_reducible refine Flow.same_mk rfl rfl rfl ?_; go_simp; done) | (with_reducible exact Flow.same_un rfl rfl rfl) | (with_reducible refine Flow.region_flow (id := 5) [0, 0, 0, 6, 14, 30, 0, 0, 192, 448, 960, 2046, 4094, 8191, 16383] 14336 1848 [(0, none), (1, none), (2, none), (3, none), (4, none), (5, none), (6, none), (7, none), (8, none), (9, none), (10, none), (11, some []), (12, some []), (13, some []), (14, none)] mixed ?hB ?_; (case hB => decide +kernel); simp only [Flow.textOf, Flow.q1, Flow.q2, Flow.q3, Flow.q4, Flow.q5, Flow.q6, Flow.q7, Flow.q8, Flow.q9, Flow.wpFl, Flow.SameAll]) | (refine Flow.region_still mixed ?hB ?_; (case hB => decide +kernel)))
        go_roundw
        case rel =>
          refine ⟨k + 1, ao', cap', by omega, by go_num, rfl, ?_, HF5.out.trans (show Fr (fun _ => False) w5 _ by (with_reducible repeat' (first | exact Fr.refl _ _ | apply Fr.alloc | apply Fr.drew | apply Fr.drewN | refine Fr.setCell ?_ ?_ _))) (fun _ _ h => h)⟩
          rw [HTK.out]
          exact HO5.out.fr (S := fun _ => False) (show Fr (fun _ => False) w5 _ by (with_reducible repeat' (first | exact Fr.refl _ _ | apply Fr.alloc | apply Fr.drew | apply Fr.drewN | refine Fr.setCell ?_ ?_ _))) (fun _ _ h => h)
        case measure => simp [intOf]; omega
    · obtain rfl : k = LL := by omega
      have htk : l.take k = l := List.take_of_length_le (by rw [← HLL.out]; exact Nat.le_refl _)
      rw [htk] at HO
      go_wp2_with (first | still_step | (with_reducible first | refine wpStill_nil ?_ | refine Flow.Both.mk ?_ ?_ | exact True.intro) | (with_reducible refine Flow.same_mk rfl rfl rfl ?_; go_simp; done) | (with_reducible exact Flow.same_un rfl rfl rfl) | (with_reducible refine Flow.region_flow (id := 5) [0, 0, 0, 6, 14, 30, 0, 0, 192, 448, 960, 2046, 4094, 8191, 16383] 14336 1848 [(0, none), (1, none), (2, none), (3, none), (4, none), (5, none), (6, none), (7, none), (8, none), (9, none), (10, none), (11, some []), (12, some []), (13, some []), (14, none)] mixed ?hB ?_; (case hB => decide +kernel); simp only [Flow.textOf, Flow.q1, Flow.q2, Flow.q3, Flow.q4, Flow.q5, Flow.q6, Flow.q7, Flow.q8, Flow.q9, Flow.wpFl, Flow.SameAll]) | (refine Flow.region_still mixed ?hB ?_; (case hB => decide +kernel)))
      go_ret
      exact ⟨a, c, rfl, HO.out.fr (S := fun _ => False) (by (with_reducible repeat' (first | exact Fr.refl _ _ | apply Fr.alloc | apply Fr.drew | apply Fr.drewN | refine Fr.setCell ?_ ?_ _))) (fun _ _ h => h), HF.out.trans (show Fr (fun _ => False) wr _ by (with_reducible repeat' (first | exact Fr.refl _ _ | apply Fr.alloc | apply Fr.drew | apply Fr.drewN | refine Fr.setCell ?_ ?_ _))) (fun _ _ h => h)⟩

theorem same30_is (a0 a1 : Option Addr) (c0 c1 : Nat) (l m : List (Int × Int)) (w : World) (hv : Vw w 2 (fun _ => True) a0 l.length (dosC l)) (hu : Vw w 2 (fun _ => True) a1 m.length (dosC m)) (hl : l.length ≤ 100000) :
    Calls Try.prog 23 #[.slice a0 l.length c0, .slice a1 m.length c1] w fun e w' => e = .returned (.bool (decide (l = m))) ∧ Fr (fun _ => False) w w' := by
  have HV := hid hv
  have HU := hid hu
  by_cases hlm : l.length = m.length
  · rw [← hlm]
    obtain ⟨LL, hLL⟩ : ∃ LL, LL = l.length := ⟨_, rfl⟩
    have HLL := hid hLL
    have HLM := hid (show LL = m.length from hLL.trans hlm)
    rw [← hLL] at hl ⊢
    clear hv hu hLL hlm
    obtain ⟨res, hres⟩ : ∃ r, r = decide (l = m) := ⟨_, rfl⟩
    have HRES := hid hres
    rw [← hres]
    clear hres
    go_enter Try.func23, Try.ntmps23
    go_wp2_with (first | still_step | (with_reducible first | refine wpStill_nil ?_ | refine Flow.Both.mk ?_ ?_ | exact True.intro) | (with_reducible refine Flow.same_mk rfl rfl rfl ?_; go_simp; done) | (with_reducible exact Flow.same_un rfl rfl rfl) | (refine Flow.region_still mixed ?hB ?_; (case hB => decide +kernel)))
    go_loopw [5] (fun i wr => ∃ (k : Nat), k ≤ LL ∧ i = .int .i64 k ∧ l.take k = m.take k ∧ Fr (fun _ => False) w wr) (fun i _ => LL - (intOf i).toNat)
    case atStart => exact ⟨0, Nat.zero_le _, rfl, by simp, Fr.refl _ _⟩
    case round =>
      obtain ⟨k, hk, rfl, hpre, hf⟩ := hrel
      have HP := hid hpre
      have HF := hid hf
      clear hpre hf
      by_cases hlt : k < LL
      · have hkl : k < l.length := by have := HLL.out; omega
        have hkm : k < m.length := by have := HLM.out; omega
        obtain ⟨r0, off0, rfl, hr0, hcell⟩ := (HV.out.fr HF.out (fun _ _ h => h)).cell (dosC_ne hkl)
        have d0 : wr.cell? ⟨r0, off0 + k * 2, none⟩ = some (.int .i64 l[k].1) := hcell (k * 2) _ (dosC_get l k hkl).1
        have d1 : wr.cell? ⟨r0, off0 + k * 2 + 1, none⟩ = some (.int .i64 l[k].2) := hcell (k * 2 + 1) _ (dosC_get l k hkl).2
        obtain ⟨r1, off1, rfl, hr1, hcell1⟩ := (HU.out.fr HF.out (fun _ _ h => h)).cell (dosC_ne hkm)
        have e0 : wr.cell? ⟨r1, off1 + k * 2, none⟩ = some (.int .i64 m[k].1) := hcell1 (k * 2) _ (dosC_get m k hkm).1
        have e1 : wr.cell? ⟨r1, off1 + k * 2 + 1, none⟩ = some (.int .i64 m[k].2) := hcell1 (k * 2 + 1) _ (dosC_get m k hkm).2
        have HNX := hid (show l[k] = m[k] → l.take (k + 1) = m.take (k + 1) from fun h => by rw [List.take_succ_eq_append_getElem hkl, List.take_succ_eq_append_getElem hkm, HP.out, h])
        have HNE := hid (show l[k] ≠ m[k] → l ≠ m from fun h e => h (by subst e; rfl))
        have hlt2 : ((k : Nat) : Int) < (LL : Nat) := by omega
        clear hcell hcell1
        generalize l[k] = d at *
        generalize m[k] = d' at *
        obtain ⟨x1, x2⟩ := d
        obtain ⟨y1, y2⟩ := d'
        dsimp only at d0 d1 e0 e1
        by_cases hx : x1 = y1
        · subst hx
          by_cases hy : x2 = y2
          · subst hy
            go_wp2_with (first | still_step | (with_reducible first | refine wpStill_nil ?_ | refine Flow.Both.mk ?_ ?_ | exact True.intro) | (with_reducible refine Flow.same_mk rfl rfl rfl ?_; go_simp; done) | (with_reducible exact Flow.same_un rfl rfl rfl) | (refine Flow.region_still mixed ?hB ?_; (case hB => decide +kernel)))
            go_roundw
            case rel => exact ⟨k + 1, by omega, by go_num, HNX.out rfl, HF.out.trans (show Fr (fun _ => False) wr _ by (with_reducible repeat' (first | exact Fr.refl _ _ | apply Fr.alloc | apply Fr.drew | apply Fr.drewN | refine Fr.setCell ?_ ?_ _))) (fun _ _ h => h)⟩
            case measure => simp [intOf]; omega
          · have hy2 : (x2 != y2) = true := by simpa using hy
            have hr : res = false := by rw [HRES.out]; exact decide_eq_false (HNE.out (fun h => hy (Prod.mk.inj h).2))
            subst hr
            go_wp2_with (first | still_step | (with_reducible first | refine wpStill_nil ?_ | refine Flow.Both.mk ?_ ?_ | exact True.intro) | (with_reducible refine Flow.same_mk rfl rfl rfl ?_; go_simp; done) | (with_reducible exact Flow.same_un rfl rfl rfl) | (refine Flow.region_still mixed ?hB ?_; (case hB => decide +kernel)))
            go_ret
            exact ⟨rfl, HF.out.trans (show Fr (fun _ => False) wr _ by (with_reducible repeat' (first | exact Fr.refl _ _ | apply Fr.alloc | apply Fr.drew | apply Fr.drewN | refine Fr.setCell ?_ ?_ _))) (fun _ _ h => h)⟩
        · have hx2 : (x1 != y1) = true := by simpa using hx
          have hr : res = false := by rw [HRES.out]; exact decide_eq_false (HNE.out (fun h => hx (Prod.mk.inj h).1))
          subst hr
          go_wp2_with (first | still_step | (with_reducible first | refine wpStill_nil ?_ | refine Flow.Both.mk ?_ ?_ | exact True.intro) | (with_reducible refine Flow.same_mk rfl rfl rfl ?_; go_simp; done) | (with_reducible exact Flow.same_un rfl rfl rfl) | (refine Flow.region_still mixed ?hB ?_; (case hB => decide +kernel)))
          go_ret
          exact ⟨rfl, HF.out.trans (show Fr (fun _ => False) wr _ by (with_reducible repeat' (first | exact Fr.refl _ _ | apply Fr.alloc | apply Fr.drew | apply Fr.drewN | refine Fr.setCell ?_ ?_ _))) (fun _ _ h => h)⟩
      · obtain rfl : k = LL := by omega
        have hr : res = true := by
          rw [HRES.out]
          refine decide_eq_true ?_
          have := HP.out
          rw [List.take_of_length_le (by rw [← HLL.out]; exact Nat.le_refl _), List.take_of_length_le (by rw [← HLM.out]; exact Nat.le_refl _)] at this
          exact this
        subst hr
        go_wp2_with (first | still_step | (with_reducible first | refine wpStill_nil ?_ | refine Flow.Both.mk ?_ ?_ | exact True.intro) | (with_reducible refine Flow.same_mk rfl rfl rfl ?_; go_simp; done) | (with_reducible exact Flow.same_un rfl rfl rfl) | (refine Flow.region_still mixed ?hB ?_; (case hB => decide +kernel)))
        go_ret
        exact ⟨rfl, HF.out.trans (show Fr (fun _ => False) wr _ by (with_reducible repeat' (first | exact Fr.refl _ _ | apply Fr.alloc | apply Fr.drew | apply Fr.drewN | refine Fr.setCell ?_ ?_ _))) (fun _ _ h => h)⟩
  · rw [show decide (l = m) = false from decide_eq_false (fun e => hlm (by rw [e]))]
    have hne : ¬ ((l.length : Int) = (m.length : Int)) := by omega
    have hn2 : ((l.length : Int) != (m.length : Int)) = true := by simpa using hne
    generalize l.length = p at hn2 ⊢
    generalize m.length = q at hn2 ⊢
    clear hne hlm hv hu hl
    go_enter Try.func23, Try.ntmps23
    go_wp2_with (first | still_step | (with_reducible first | refine wpStill_nil ?_ | refine Flow.Both.mk ?_ ?_ | exact True.intro) | (with_reducible refine Flow.same_mk rfl rfl rfl ?_; go_simp; done) | (with_reducible exact Flow.same_un rfl rfl rfl) | (refine Flow.region_still mixed ?hB ?_; (case hB => decide +kernel)))
    go_ret
    exact ⟨rfl, by (with_reducible repeat' (first | exact Fr.refl _ _ | apply Fr.alloc | apply Fr.drew | apply Fr.drewN | refine Fr.setCell ?_ ?_ _))⟩
end Go.Proofs.Ytbfeopakmjcapaa.Sp
