/-
  A step: any instruction, whichever function does it; then Step itself.
-/
import Derived.Test.YtbfeopakmjcapaaTsoX
import Derived.Test.YtbfeopakmjcapaaBase
set_option linter.unusedVariables false
set_option linter.unusedSimpArgs false
set_option maxHeartbeats 4000000
set_option maxRecDepth 8000
namespace Go.Proofs.Ytbfeopakmjcapaa.Tso
open Go.RowKit Go.Proofs.Ytbfeopakmjcapaa.Seq
attribute [local irreducible] wpStill wpList Calls CallsIn

abbrev Res := Option (Th × List Int × List Ev × Leak)
def kOf (r : Res) : Leak := match r with | none => none_ | some (_, _, _, k) => k
def stepOf (m : M) (i : Nat) (r : Res) : M := match r with | none => m | some (t, own, ev, _) => { m with ths := m.ths.set i t, own := own, events := ev }

def doesN (k : Int) : Nat := if k = 7 then 71 else if k = 4 then 72 else if k = 5 then 73 else if k = 9 then 74 else if k = 10 then 75 else if k = 11 then 76 else if k = 12 then 77 else if k = 13 then 78 else 79

theorem mv_of {R : Nat → Prop} {w w1 : World} (h : Fr R w w1) : Mv R R w w1 := ⟨fun _ h => h, fun _ h => .inl h, h⟩

set_option maxHeartbeats 1000000 in
theorem ins_is (B i : Nat) (R : Nat → Prop) (ids : List (Nat × Nat)) (m : M) (p : Nat × Nat) (t : Th) (ins : Ins) (who size : Int) (w : World) (h : MR w R B ids m) (hp : ids[i]? = some p) (ht : m.ths[i]? = some t) (hev : evRoom m) (hok : insOk size m.own.length ins) :
    Calls Try.prog (doesN ins.k) #[.pointer (some ⟨B, 0, none⟩), .pointer (some ⟨p.1, 0, none⟩), .int .i64 who, .agg (insC ins).toArray] w fun e w' =>
      e = .returned (.tuple #[leakV (kOf (doIns m who t ins)), .bool (doIns m who t ins).isSome]) ∧ ∃ R', MR w' R' B ids (stepOf m i (doIns m who t ins)) ∧ Mv R R' w w' := by
  obtain ⟨Q, h⟩ := h
  obtain ⟨k, op, d, a, b, n, to⟩ := ins
  obtain ⟨hk0, hk1, hd0, hd1, hb0, hb1, ha0, ha1, _, _, _, _, hn, _⟩ := hok
  dsimp only at hk0 hk1 hd0 hd1 hb0 hb1 ha0 ha1 hn
  have hset : m.ths.set i t = m.ths := by
    apply List.ext_getElem?
    intro j
    rw [List.getElem?_set]
    by_cases hij : i = j
    · subst hij; rw [if_pos rfl, ht]; have := (List.getElem?_eq_some_iff.1 ht).1; simp [this]
    · rw [if_neg hij]
  have same : ∀ {w' : World}, MR w' R B ids m ∧ Fr R w w' → ∃ R', MR w' R' B ids m ∧ Mv R R' w w' := fun h => ⟨R, h.1, mv_of h.2⟩
  by_cases e7 : k = 7
  · subst e7
    by_cases hz : t.reg a = 0
    · have e : doIns m who t ⟨7, op, d, a, b, n, to⟩ = some ({ t with place := to }, m.own, m.events, ⟨3, who, 0, 1⟩) := by simp [doIns, hz]
      rw [e]
      refine (zero_yes B i R ids Q m p t op d a b n to who w h hp ht (by omega) hz).mono ?_
      rintro e w' ⟨rfl, h2⟩
      exact ⟨rfl, R, h2.1, mv_of h2.2⟩
    · have e : doIns m who t ⟨7, op, d, a, b, n, to⟩ = some (t.step, m.own, m.events, ⟨3, who, 0, 0⟩) := by simp [doIns, hz]
      rw [e]
      refine (zero_no B i R ids Q m p t op d a b n to who w h hp ht (by omega) hz).mono ?_
      rintro e w' ⟨rfl, h2⟩
      exact ⟨rfl, R, h2.1, mv_of h2.2⟩
  by_cases e4 : k = 4
  · subst e4
    have e : doIns m who t ⟨4, op, d, a, b, n, to⟩ = some ((t.set d (loaded m t (t.word ⟨4, op, d, a, b, n, to⟩))).step, m.own, m.events, ⟨1, who, 0, t.word ⟨4, op, d, a, b, n, to⟩⟩) := by simp [doIns, loaded]; rfl
    rw [e]
    refine (load_is B i R ids Q m p t op d a b n to who w h hp ht ⟨hd0, hd1⟩ ha1).mono ?_
    rintro e w' ⟨rfl, h2⟩
    exact ⟨rfl, R, h2.1, mv_of h2.2⟩
  by_cases e5 : k = 5
  · subst e5
    by_cases hr : t.wait.length < m.room
    · have e : doIns m who t ⟨5, op, d, a, b, n, to⟩ = some ({ t with wait := t.wait ++ [(t.word ⟨5, op, d, a, b, n, to⟩, t.reg b)] }.step, m.own, m.events, ⟨2, who, 0, t.word ⟨5, op, d, a, b, n, to⟩⟩) := by simp [doIns, hr]
      rw [e]
      refine (store_yes B i R ids Q m p t op d a b n to who w h hp ht ha1 ⟨hb0, hb1⟩ hr).mono ?_
      rintro e w' ⟨rfl, h2⟩
      exact ⟨rfl, h2⟩
    · have e : doIns m who t ⟨5, op, d, a, b, n, to⟩ = none := by simp only [doIns]; simp [hr]
      rw [e]
      refine (store_no B i R ids Q m p t op d a b n to who w h hp ht ha1 ⟨hb0, hb1⟩ hr).mono ?_
      rintro e w' ⟨rfl, h2⟩
      exact ⟨rfl, same h2⟩
  by_cases e9 : k = 9
  · subst e9
    have hn' := hn (.inl rfl)
    by_cases hw : 0 < t.wait.length
    · have e : doIns m who t ⟨9, op, d, a, b, n, to⟩ = none := by simp only [doIns]; simp [hw]
      rw [e]
      refine (take_waits B i R ids Q m p t op d a b n to who w h hp ht hw).mono ?_
      rintro e w' ⟨rfl, h2⟩
      exact ⟨rfl, same h2⟩
    · by_cases ho : m.own.getD n.toNat (-1) = -1
      · have e : doIns m who t ⟨9, op, d, a, b, n, to⟩ = some (t.step, m.own.set n.toNat who, m.events ++ [⟨1, who, n⟩], ⟨5, who, 1, n⟩) := by simp only [doIns]; simp only [hw, ho]; simp
        rw [e]
        refine (take_yes B i R ids Q m p t op d a b n to who w h hp ht hev hn' (by omega) ho).mono ?_
        rintro e w' ⟨rfl, h2⟩
        exact ⟨rfl, h2⟩
      · have ho2 := ho
        rw [List.getD_eq_getElem?_getD] at ho2
        have e : doIns m who t ⟨9, op, d, a, b, n, to⟩ = none := by simp only [doIns]; simp [hw, ho2]
        rw [e]
        refine (take_owned B i R ids Q m p t op d a b n to who w h hp ht hn' (by omega) ho).mono ?_
        rintro e w' ⟨rfl, h2⟩
        exact ⟨rfl, same h2⟩
  by_cases e10 : k = 10
  · subst e10
    have hn' := hn (.inr rfl)
    by_cases hw : 0 < t.wait.length
    · have e : doIns m who t ⟨10, op, d, a, b, n, to⟩ = none := by simp only [doIns]; simp [hw]
      rw [e]
      refine (give_waits B i R ids Q m p t op d a b n to who w h hp ht hw).mono ?_
      rintro e w' ⟨rfl, h2⟩
      exact ⟨rfl, same h2⟩
    · have e : doIns m who t ⟨10, op, d, a, b, n, to⟩ = some (t.step, m.own.set n.toNat (-1), m.events ++ [⟨2, who, n⟩], ⟨5, who, 2, n⟩) := by simp only [doIns]; simp only [hw]; simp
      rw [e]
      refine (give_yes B i R ids Q m p t op d a b n to who w h hp ht hev hn' (by omega)).mono ?_
      rintro e w' ⟨rfl, h2⟩
      exact ⟨rfl, h2⟩
  by_cases e11 : k = 11
  · subst e11
    have e : doIns m who t ⟨11, op, d, a, b, n, to⟩ = some (t.step, m.own, m.events ++ [⟨0, who, t.reg a⟩], ⟨5, who, 0, t.reg a⟩) := by simp [doIns]
    rw [e]
    refine (out_is B i R ids Q m p t op d a b n to who w h hp ht hev (by omega)).mono ?_
    rintro e w' ⟨rfl, h2⟩
    exact ⟨rfl, h2⟩
  by_cases e12 : k = 12
  · subst e12
    have e : doIns m who t ⟨12, op, d, a, b, n, to⟩ = some ({ t with over := true }, m.own, m.events ++ [⟨3, who, n⟩], ⟨5, who, 3, n⟩) := by simp [doIns]
    rw [e]
    refine (trap_is B i R ids Q m p t op d a b n to who w h hp ht hev).mono ?_
    rintro e w' ⟨rfl, h2⟩
    exact ⟨rfl, h2⟩
  by_cases e13 : k = 13
  · subst e13
    have e : doIns m who t ⟨13, op, d, a, b, n, to⟩ = some ({ t with over := true }, m.own, m.events ++ [⟨4, who, 0⟩], ⟨5, who, 4, 0⟩) := by simp [doIns]
    rw [e]
    refine (halt_is B i R ids Q m p t op d a b n to who w h hp ht hev).mono ?_
    rintro e w' ⟨rfl, h2⟩
    exact ⟨rfl, h2⟩
  have eS : doesN k = 79 := by simp [doesN, e7, e4, e5, e9, e10, e11, e12, e13]
  rw [show doesN ({ k := k, op := op, d := d, a := a, b := b, n := n, to := to } : Ins).k = 79 from eS]
  have fin : ∀ (t1 : Th), doIns m who t ⟨k, op, d, a, b, n, to⟩ = some (t1, m.own, m.events, ⟨0, who, 0, 0⟩) → Calls Try.prog 79 #[.pointer (some ⟨B, 0, none⟩), .pointer (some ⟨p.1, 0, none⟩), .int .i64 who, .agg (insC ⟨k, op, d, a, b, n, to⟩).toArray] w (fun e w' => e = .returned (.tuple #[leakV ⟨0, who, 0, 0⟩, .bool true]) ∧
      MR w' R B ids { m with ths := m.ths.set i t1 } ∧ Fr R w w') → Calls Try.prog 79 #[.pointer (some ⟨B, 0, none⟩), .pointer (some ⟨p.1, 0, none⟩), .int .i64 who, .agg (insC ⟨k, op, d, a, b, n, to⟩).toArray] w fun e w' =>
      e = .returned (.tuple #[leakV (kOf (doIns m who t ⟨k, op, d, a, b, n, to⟩)), .bool (doIns m who t ⟨k, op, d, a, b, n, to⟩).isSome]) ∧ ∃ R', MR w' R' B ids (stepOf m i (doIns m who t ⟨k, op, d, a, b, n, to⟩)) ∧ Mv R R' w w' := by
    intro t1 e hc
    rw [e]
    refine hc.mono ?_
    rintro e w' ⟨rfl, h2⟩
    exact ⟨rfl, R, h2.1, mv_of h2.2⟩
  have hd' : 0 ≤ d ∧ d < 16 := ⟨hd0, hd1⟩
  have ha' : 0 ≤ a ∧ a < 16 := by omega
  have hb' : 0 ≤ b ∧ b < 16 := ⟨hb0, hb1⟩
  by_cases e0 : k = 0
  · subst e0
    exact fin _ (by simp [doIns]) (simple_set B i R ids Q m p t op d a b n to who w h hp ht hd')
  by_cases e1 : k = 1
  · subst e1
    exact fin _ (by simp [doIns]) (simple_move B i R ids Q m p t op d a b n to who w h hp ht hd' ha')
  by_cases e2 : k = 2
  · subst e2
    exact fin _ (by simp [doIns]) (simple_eval B i R ids Q m p t op d a b n to who w h hp ht hd' ha' hb')
  by_cases e3 : k = 3
  · subst e3
    by_cases hz : t.reg a = 0
    · exact fin _ (by simp [doIns, hz]) (simple_pick0 B i R ids Q m p t op d a b n to who w h hp ht hd' ha' hz)
    · exact fin _ (by simp [doIns, hz]) (simple_pick1 B i R ids Q m p t op d a b n to who w h hp ht hd' ha' hb' hz)
  by_cases e6 : k = 6
  · subst e6
    exact fin _ (by simp [doIns]) (simple_jump B i R ids Q m p t op d a b n to who w h hp ht)
  exact fin _ (by simp [doIns, e0, e1, e2, e3, e4, e5, e6, e7, e9, e10, e11, e12, e13]) (simple_else B i R ids Q m p t k op d a b n to who w h hp ht ⟨e0, e1, e2, e3, e6⟩)

theorem under_does : Try.prog.underlying 142 = some (.map 3 141) := by kernel_rfl
theorem zero_does : (Try.prog.info? 141).map (fun i => i.zero) = some (some .nilFunc) := by kernel_rfl
theorem under_intS : Try.prog.underlying 3 = some (.int .i64) := by kernel_rfl

def cloV (F B : Nat) : Value := .func (.func F) #[.pointer (some ⟨B, 0, none⟩)] #[]
def doesF (B : Nat) : Int → Option Value := upd (upd (upd (upd (upd (upd (upd (upd (fun _ => none) 7 (some (cloV 71 B))) 4 (some (cloV 72 B))) 5 (some (cloV 73 B))) 9 (some (cloV 74 B))) 10 (some (cloV 75 B))) 11 (some (cloV 76 B))) 12 (some (cloV 77 B))) 13 (some (cloV 78 B))

theorem does_cases (B : Nat) (k : Int) : (doesF B k = none ∧ doesN k = 79) ∨ doesF B k = some (cloV (doesN k) B) := by
  unfold doesF doesN upd
  repeat' split
  all_goals first | (exact .inr rfl) | (exact .inl ⟨rfl, rfl⟩) | omega

theorem doesN_cases (k : Int) : doesN k = 71 ∨ doesN k = 72 ∨ doesN k = 73 ∨ doesN k = 74 ∨ doesN k = 75 ∨ doesN k = 76 ∨ doesN k = 77 ∨ doesN k = 78 ∨ doesN k = 79 := by
  unfold doesN
  repeat' split
  all_goals simp

/-- All threads' codes are such as an image may have. -/
def GoodM (m : M) : Prop := ∀ (i : Nat) (t : Th), m.ths[i]? = some t → ∀ ins ∈ t.code, insOk t.code.length m.own.length ins

def M.stepR (m : M) (who : Int) : M × Leak × Bool := m.step who

theorem step_is (B : Nat) (R : Nat → Prop) (ids : List (Nat × Nat)) (m : M) (who : Int) (w : World) (h : MR w R B ids m) (hg : GoodM m) (hev : evRoom m) :
    Calls Try.prog 57 #[.pointer (some ⟨B, 0, none⟩), .int .i64 who] w fun e w' => e = .returned (.tuple #[leakV (m.step who).2.1, .bool (m.step who).2.2]) ∧ ∃ R', MR w' R' B ids (m.step who).1 ∧ Mv R R' w w' := by
  have HR := hid h
  obtain ⟨d4, hd4, hd5⟩ := unLK
  obtain ⟨res, hres⟩ : ∃ res, res = m.step who := ⟨_, rfl⟩
  rw [← hres]
  have HRES := hid hres
  clear hres
  have HL := hid (Blk.new w #[.int .i64 0, .int .i64 0, .int .i64 0, .int .i64 0] 37)
  have hrl := h.lt
  have HRL := hid hrl
  clear hrl
  cases hn : m.next who with
  | none =>
    have hr : res = (m, none_, false) := by
      rw [HRES.out]
      unfold M.step
      unfold M.next at hn
      cases ht : m.th who with
      | none => rfl
      | some t => rw [ht] at hn; simp only [Option.bind_some] at hn; simp only [hn]
    subst hr
    have hnx := next_is B R ids m who
    rw [hn] at hnx
    dsimp only [Option.getD_none, Option.isSome_none, insC, noneI] at hnx
    have HN := hid hnx
    clear hnx h hn
    go_enter Try.func57, Try.ntmps57
    go_wp2_with (first | still_step | (with_reducible first | refine wpStill_nil ?_ | refine Flow.Both.mk ?_ ?_ | exact True.intro) | (with_reducible refine Flow.same_mk rfl rfl rfl ?_; go_simp; done) | (with_reducible exact Flow.same_un rfl rfl rfl) | (with_reducible refine Flow.region_flow (id := 8) [0, 0, 0, 6, 0, 0, 63, 127, 127, 511, 1023] 584 32 [(0, none), (1, none), (2, none), (4, none), (5, none), (3, some [5]), (6, some []), (7, none), (8, none), (9, some []), (10, none)] mixed ?hB ?_; (case hB => decide +kernel); simp only [Flow.textOf, Flow.q1, Flow.q2, Flow.q3, Flow.q4, Flow.q5, Flow.q6, Flow.q7, Flow.q8, Flow.q9, Flow.wpFl, Flow.SameAll]) | (refine Flow.region_still mixed ?hB ?_; (case hB => decide +kernel)))
    go_at_call 55
    refine (HN.out _ (HR.out.fr (S := fun _ => False) (by (with_reducible repeat' (first | exact Fr.refl _ _ | apply Fr.alloc | apply Fr.drew | apply Fr.drewN | refine Fr.setCell ?_ ?_ _))) (fun _ _ h => h))).mono ?_
    rintro e w1 ⟨rfl, hf⟩
    have HF1 := hid (show Fr (fun _ => False) w w1 from (show Fr (fun _ => False) w _ by (with_reducible repeat' (first | exact Fr.refl _ _ | apply Fr.alloc | apply Fr.drew | apply Fr.drewN | refine Fr.setCell ?_ ?_ _))).trans hf (fun _ _ h => h))
    have HL1 := hid (HL.out.fr hf (fun h => h))
    clear hf
    go_wp2_with (first | ((with_reducible apply wpList_storeA (b := w.heap.size) (C := #[.int .i64 0, .int .i64 0, .int .i64 0, .int .i64 0]) (T := 37)); (case zsx => rfl); (case zsy => rfl); (case zsn => rfl); (case zsi => exact szLK); (case zs1 => rfl); (case zsb => ((repeat' (first | with_reducible exact HL1.out | with_reducible exact HL2.out | with_reducible exact HL3.out | with_reducible exact HL4.out | with_reducible apply Blk.drew | with_reducible apply Blk.alloc | (with_reducible refine Blk.set_ne ?_ ?_ _))); all_goals (first | omega | (simp; omega) | (simp; done)))); intro w9 hb9 hf9 hs9; have HB9 := hid hb9; have HF9 := hid hf9; have HSZ9 := hid hs9; clear hb9 hf9 hs9) | still_step | (with_reducible first | refine wpStill_nil ?_ | refine Flow.Both.mk ?_ ?_ | exact True.intro) | (with_reducible refine Flow.same_mk rfl rfl rfl ?_; go_simp; done) | (with_reducible exact Flow.same_un rfl rfl rfl) | (with_reducible refine Flow.region_flow (id := 8) [0, 0, 0, 6, 0, 0, 63, 127, 127, 511, 1023] 584 32 [(0, none), (1, none), (2, none), (4, none), (5, none), (3, some [5]), (6, some []), (7, none), (8, none), (9, some []), (10, none)] mixed ?hB ?_; (case hB => decide +kernel); simp only [Flow.textOf, Flow.q1, Flow.q2, Flow.q3, Flow.q4, Flow.q5, Flow.q6, Flow.q7, Flow.q8, Flow.q9, Flow.wpFl, Flow.SameAll]) | (refine Flow.region_still mixed ?hB ?_; (case hB => decide +kernel)))
    have hres := fun (C : Array Value) (hC : C.size = 4) (tmps : Array Value) (w : World) (b : Nat) (ha : tmps.getD 4 undef = .pointer (some ⟨b, 0, none⟩)) (hb : Blk w b C 37) => results_ct (P := Try.prog) Try.results57 ha hb hd4 hd5 (by rw [hC]; exact szLK)
    refine bodyPost_ret (hres _ rfl _ _ _ rfl HB9.out) rfl ?_
    have hF9 : Fr (fun _ => False) w w9 := fr_weaken (by (repeat' (first | with_reducible exact HF1.out | with_reducible apply Fr.alloc | with_reducible apply Fr.drew | (with_reducible refine Fr.setCell ?_ ?_ _)))) HF9.out (Nat.le_refl _)
    exact ⟨rfl, R, HR.out.fr hF9 (fun _ _ h => h), Mv.of_fr hF9⟩
  | some ins =>
    obtain ⟨Q, hQ⟩ := h
    rcases th_cases hQ who with ⟨h1, h2⟩ | ⟨k, p, t, rfl, hp, ht, h1, h2, hrep⟩
    · unfold M.next at hn; rw [h2] at hn; cases hn
    have hnt : t.next = some ins := by unfold M.next at hn; rw [h2] at hn; exact hn
    have hin : ins ∈ t.code := by
      unfold Th.next at hnt
      split at hnt
      · exact List.mem_of_getElem? hnt
      · cases hnt
    have hok := hg k t ht ins hin
    obtain ⟨rr, hrr⟩ : ∃ rr, rr = doIns m (k : Int) t ins := ⟨_, rfl⟩
    have hr : res = (stepOf m k rr, kOf rr, rr.isSome) := by
      rw [HRES.out, hrr]
      unfold M.step
      rw [h2]
      simp only [hnt]
      cases doIns m (k : Int) t ins with
      | none => rfl
      | some r => obtain ⟨a, b, c, d⟩ := r; simp [stepOf, kOf]
    subst hr
    have HI := hid (fun (w : World) (hm : MR w R B ids m) => ins_is B k R ids m p t ins (k : Int) t.code.length w hm hp ht hev hok)
    have HRR := hid hrr
    have hnx := next_is B R ids m (k : Int)
    rw [hn] at hnx
    clear hrr hnt hin hok hQ hrep h2 hn hg
    obtain ⟨kk, op, d, a, b, n, to⟩ := ins
    dsimp only [Option.getD_some, Option.isSome_some, insC] at hnx
    have HN := hid hnx
    clear hnx
    go_enter Try.func57, Try.ntmps57
    go_wp2_with (first | still_step | (with_reducible first | refine wpStill_nil ?_ | refine Flow.Both.mk ?_ ?_ | exact True.intro) | (with_reducible refine Flow.same_mk rfl rfl rfl ?_; go_simp; done) | (with_reducible exact Flow.same_un rfl rfl rfl) | (with_reducible refine Flow.region_flow (id := 8) [0, 0, 0, 6, 0, 0, 63, 127, 127, 511, 1023] 584 32 [(0, none), (1, none), (2, none), (4, none), (5, none), (3, some [5]), (6, some []), (7, none), (8, none), (9, some []), (10, none)] mixed ?hB ?_; (case hB => decide +kernel); simp only [Flow.textOf, Flow.q1, Flow.q2, Flow.q3, Flow.q4, Flow.q5, Flow.q6, Flow.q7, Flow.q8, Flow.q9, Flow.wpFl, Flow.SameAll]) | (refine Flow.region_still mixed ?hB ?_; (case hB => decide +kernel)))
    go_at_call 55
    refine (HN.out _ (HR.out.fr (S := fun _ => False) (by (with_reducible repeat' (first | exact Fr.refl _ _ | apply Fr.alloc | apply Fr.drew | apply Fr.drewN | refine Fr.setCell ?_ ?_ _))) (fun _ _ h => h))).mono ?_
    rintro e w1 ⟨rfl, hf⟩
    have HF1 := hid (show Fr (fun _ => False) w w1 from (show Fr (fun _ => False) w _ by (with_reducible repeat' (first | exact Fr.refl _ _ | apply Fr.alloc | apply Fr.drew | apply Fr.drewN | refine Fr.setCell ?_ ?_ _))).trans hf (fun _ _ h => h))
    have HL1 := hid (HL.out.fr hf (fun h => h))
    clear hf HL
    go_wp2_with (first | still_step | (with_reducible first | refine wpStill_nil ?_ | refine Flow.Both.mk ?_ ?_ | exact True.intro) | (with_reducible refine Flow.same_mk rfl rfl rfl ?_; go_simp; done) | (with_reducible exact Flow.same_un rfl rfl rfl) | (with_reducible refine Flow.region_flow (id := 8) [0, 0, 0, 6, 0, 0, 63, 127, 127, 511, 1023] 584 32 [(0, none), (1, none), (2, none), (4, none), (5, none), (3, some [5]), (6, some []), (7, none), (8, none), (9, some []), (10, none)] mixed ?hB ?_; (case hB => decide +kernel); simp only [Flow.textOf, Flow.q1, Flow.q2, Flow.q3, Flow.q4, Flow.q5, Flow.q6, Flow.q7, Flow.q8, Flow.q9, Flow.wpFl, Flow.SameAll]) | (refine Flow.region_still mixed ?hB ?_; (case hB => decide +kernel)))
    rw [run_makeMap]
    simp only [Result.andThen, Oper.upon, World.size_alloc]
    obtain ⟨w0, hw0⟩ : ∃ w0, w0 = (w1.alloc (.cells #[.int .i64 kk, .int .i64 op, .int .i64 d, .int .i64 a, .int .i64 b, .int .i64 n, .int .i64 to] 57)).alloc (.map #[] 0) := ⟨_, rfl⟩
    have hm0 : MapF w0 (w1.heap.size + 1) .i64 (fun _ => none) := by rw [hw0]; have := MapF.made (w1.alloc (.cells #[.int .i64 kk, .int .i64 op, .int .i64 d, .int .i64 a, .int .i64 b, .int .i64 n, .int .i64 to] 57)) .i64; simp only [World.size_alloc] at this; exact this
    have hx0 : Blk w0 w1.heap.size #[.int .i64 kk, .int .i64 op, .int .i64 d, .int .i64 a, .int .i64 b, .int .i64 n, .int .i64 to] 57 := by rw [hw0]; exact (Blk.new w1 _ _).alloc _
    have HM := hid (⟨hm0, Fr.refl _ _⟩ : MapF w0 (w1.heap.size + 1) .i64 (fun _ => none) ∧ Fr (fun x => x = w1.heap.size + 1) w0 w0)
    have hf0 : Fr (fun _ => False) w1 w0 := by rw [hw0]; (with_reducible repeat' (first | exact Fr.refl _ _ | apply Fr.alloc | apply Fr.drew | apply Fr.drewN | refine Fr.setCell ?_ ?_ _))
    have HX0 := hid hx0
    have HF0 := hid (HF1.out.trans hf0 (fun _ _ h => h))
    have HL0 := hid (HL1.out.fr hf0 (fun h => h))
    have hll := HL1.out.lt
    rw [← hw0]
    clear hm0 hw0 hx0 hf0
    rcases does_cases B kk with ⟨hd1, hd2⟩ | hd1
    · go_wp2_with (first | (refine wpList_insert (n := 7) (u := cloV 71 B) rfl (.tmp 19) (.const (.int .i64 7)) (.tmp 21) (.inl rfl) under_does under_intS rfl rfl HM.out.1 rfl ?_; intro wn hm hf; have HM1 := hid (⟨hm, HM.out.2.trans hf (fun _ _ h => h)⟩ : _ ∧ Fr (fun x => x = w1.heap.size + 1) w0 wn); clear HM hm hf; have HM := HM1; clear HM1) | (refine wpList_insert (n := 4) (u := cloV 72 B) rfl (.tmp 19) (.const (.int .i64 4)) (.tmp 23) (.inl rfl) under_does under_intS rfl rfl HM.out.1 rfl ?_; intro wn hm hf; have HM1 := hid (⟨hm, HM.out.2.trans hf (fun _ _ h => h)⟩ : _ ∧ Fr (fun x => x = w1.heap.size + 1) w0 wn); clear HM hm hf; have HM := HM1; clear HM1) | (refine wpList_insert (n := 5) (u := cloV 73 B) rfl (.tmp 19) (.const (.int .i64 5)) (.tmp 25) (.inl rfl) under_does under_intS rfl rfl HM.out.1 rfl ?_; intro wn hm hf; have HM1 := hid (⟨hm, HM.out.2.trans hf (fun _ _ h => h)⟩ : _ ∧ Fr (fun x => x = w1.heap.size + 1) w0 wn); clear HM hm hf; have HM := HM1; clear HM1) | (refine wpList_insert (n := 9) (u := cloV 74 B) rfl (.tmp 19) (.const (.int .i64 9)) (.tmp 27) (.inl rfl) under_does under_intS rfl rfl HM.out.1 rfl ?_; intro wn hm hf; have HM1 := hid (⟨hm, HM.out.2.trans hf (fun _ _ h => h)⟩ : _ ∧ Fr (fun x => x = w1.heap.size + 1) w0 wn); clear HM hm hf; have HM := HM1; clear HM1) | (refine wpList_insert (n := 10) (u := cloV 75 B) rfl (.tmp 19) (.const (.int .i64 10)) (.tmp 29) (.inl rfl) under_does under_intS rfl rfl HM.out.1 rfl ?_; intro wn hm hf; have HM1 := hid (⟨hm, HM.out.2.trans hf (fun _ _ h => h)⟩ : _ ∧ Fr (fun x => x = w1.heap.size + 1) w0 wn); clear HM hm hf; have HM := HM1; clear HM1) | (refine wpList_insert (n := 11) (u := cloV 76 B) rfl (.tmp 19) (.const (.int .i64 11)) (.tmp 31) (.inl rfl) under_does under_intS rfl rfl HM.out.1 rfl ?_; intro wn hm hf; have HM1 := hid (⟨hm, HM.out.2.trans hf (fun _ _ h => h)⟩ : _ ∧ Fr (fun x => x = w1.heap.size + 1) w0 wn); clear HM hm hf; have HM := HM1; clear HM1) | (refine wpList_insert (n := 12) (u := cloV 77 B) rfl (.tmp 19) (.const (.int .i64 12)) (.tmp 33) (.inl rfl) under_does under_intS rfl rfl HM.out.1 rfl ?_; intro wn hm hf; have HM1 := hid (⟨hm, HM.out.2.trans hf (fun _ _ h => h)⟩ : _ ∧ Fr (fun x => x = w1.heap.size + 1) w0 wn); clear HM hm hf; have HM := HM1; clear HM1) | (refine wpList_insert (n := 13) (u := cloV 78 B) rfl (.tmp 19) (.const (.int .i64 13)) (.tmp 35) (.inl rfl) under_does under_intS rfl rfl HM.out.1 rfl ?_; intro wn hm hf; have HM1 := hid (⟨hm, HM.out.2.trans hf (fun _ _ h => h)⟩ : _ ∧ Fr (fun x => x = w1.heap.size + 1) w0 wn); clear HM hm hf; have HM := HM1; clear HM1; have hx := HX0.out.fr HM.out.2 (by omega); have c0_x := hx.cell 0; have c1_x := hx.cell 1; have c2_x := hx.cell 2; have c3_x := hx.cell 3; have c4_x := hx.cell 4; have c5_x := hx.cell 5; have c6_x := hx.cell 6; have HXn := hid hx; have HLn := hid (HL0.out.fr HM.out.2 (by omega)); have HFn := hid (HF0.out.trans (S := fun _ => False) HM.out.2 (fun k hk e => by omega)); have hl : (Instr.lookup 142 (.map (some (w1.heap.size + 1))) (.int .i64 kk) true).run Try.prog wn = .ok (.tuple #[(doesF B kk).getD .nilFunc, .bool (doesF B kk).isSome]) wn := (run_look under_does under_intS HM.out.1 kk (run_zero zero_does wn) true); rw [hd1] at hl; simp only [Option.getD_none, Option.getD_some, Option.isSome_none, Option.isSome_some] at hl; (try dsimp only [cloV] at hl); have hwn := HM.out.1.lt; clear hx HM HX0 HL0 HF0; have hnm1 : ¬ (w.heap.size = w1.heap.size) := (by omega); skip) | still_step | (with_reducible first | refine wpStill_nil ?_ | refine Flow.Both.mk ?_ ?_ | exact True.intro) | (with_reducible refine Flow.same_mk rfl rfl rfl ?_; go_simp; done) | (with_reducible exact Flow.same_un rfl rfl rfl) | (with_reducible refine Flow.region_flow (id := 8) [0, 0, 0, 6, 0, 0, 63, 127, 127, 511, 1023] 584 32 [(0, none), (1, none), (2, none), (4, none), (5, none), (3, some [5]), (6, some []), (7, none), (8, none), (9, some []), (10, none)] mixed ?hB ?_; (case hB => decide +kernel); simp only [Flow.textOf, Flow.q1, Flow.q2, Flow.q3, Flow.q4, Flow.q5, Flow.q6, Flow.q7, Flow.q8, Flow.q9, Flow.wpFl, Flow.SameAll]) | (refine Flow.region_still mixed ?hB ?_; (case hB => decide +kernel)))
      go_at_call 62
      refine (get_is B R ids m _ _ (HR.out.fr (S := fun _ => False) (by first | exact HFn.out | exact HFn.out.drew) (fun _ _ h => h))).mono ?_
      rintro e w2 ⟨rfl, hf⟩
      rw [h1]
      have hfd := (show Fr (fun _ => False) wn _ by (with_reducible repeat' (first | exact Fr.refl _ _ | apply Fr.alloc | apply Fr.drew | apply Fr.drewN | refine Fr.setCell ?_ ?_ _))).trans hf (fun _ _ h => h)
      have HF2 := hid (HFn.out.trans hfd (fun _ _ h => h))
      have HL2 := hid (HLn.out.fr hfd (fun h => h))
      have hy := HXn.out.fr hfd (fun h => h)
      have c0_y := Blk.cell hy 0
      have f0_y := Blk.free hy 0
      have c1_y := Blk.cell hy 1
      have f1_y := Blk.free hy 1
      have c2_y := Blk.cell hy 2
      have f2_y := Blk.free hy 2
      have c3_y := Blk.cell hy 3
      have f3_y := Blk.free hy 3
      have c4_y := Blk.cell hy 4
      have f4_y := Blk.free hy 4
      have c5_y := Blk.cell hy 5
      have f5_y := Blk.free hy 5
      have c6_y := Blk.cell hy 6
      have f6_y := Blk.free hy 6
      have l_y := Blk.lt hy
      clear hy
      clear c0_x c1_x c2_x c3_x c4_x c5_x c6_x hf hfd
      go_wp2_with (first | still_step | (with_reducible first | refine wpStill_nil ?_ | refine Flow.Both.mk ?_ ?_ | exact True.intro) | (with_reducible refine Flow.same_mk rfl rfl rfl ?_; go_simp; done) | (with_reducible exact Flow.same_un rfl rfl rfl) | (with_reducible refine Flow.region_flow (id := 8) [0, 0, 0, 6, 0, 0, 63, 127, 127, 511, 1023] 584 32 [(0, none), (1, none), (2, none), (4, none), (5, none), (3, some [5]), (6, some []), (7, none), (8, none), (9, some []), (10, none)] mixed ?hB ?_; (case hB => decide +kernel); simp only [Flow.textOf, Flow.q1, Flow.q2, Flow.q3, Flow.q4, Flow.q5, Flow.q6, Flow.q7, Flow.q8, Flow.q9, Flow.wpFl, Flow.SameAll]) | (refine Flow.region_still mixed ?hB ?_; (case hB => decide +kernel)))
      rw [← hd2]
      refine (HI.out _ (HR.out.fr (S := fun _ => False) (by first | exact HF2.out | exact HF2.out.drew) (fun _ _ h => h))).mono ?_
      rintro e w3 ⟨rfl, R3, hm3, hv3⟩
      rw [← HRR.out] at hm3
      simp only [← HRR.out]
      dsimp only [leakV]
      have hvv := (Mv.of_fr (R := R) (show Fr (fun _ => False) w _ from by first | exact HF2.out | exact HF2.out.drew)).trans hv3
      have HL3 := hid (HL2.out.fr (w1 := w3) (S := R) (by first | exact hv3.2.2 | exact (Fr.refl _ _).drew.trans hv3.2.2 (fun _ _ h => h)) (fun hk => by have := HRL.out _ hk; omega))
      have HM3 := hid hm3
      have HV3 := hid hvv
      have HNS := hid (show ∀ x, R3 x → ¬ (x = w.heap.size) from fun x hx e => by
        rcases hv3.2.1 x hx with h | h
        · have := HRL.out _ h; omega
        · have := HL2.out.lt; (try simp at h); omega)
      clear hm3 hv3 hvv c0_y c1_y c2_y c3_y c4_y c5_y c6_y
      go_wp2_with (first | ((with_reducible apply wpList_storeA (b := w.heap.size) (C := #[.int .i64 0, .int .i64 0, .int .i64 0, .int .i64 0]) (T := 37)); (case zsx => rfl); (case zsy => rfl); (case zsn => rfl); (case zsi => exact szLK); (case zs1 => rfl); (case zsb => ((repeat' (first | with_reducible exact HL1.out | with_reducible exact HL2.out | with_reducible exact HL3.out | with_reducible exact HL4.out | with_reducible apply Blk.drew | with_reducible apply Blk.alloc | (with_reducible refine Blk.set_ne ?_ ?_ _))); all_goals (first | omega | (simp; omega) | (simp; done)))); intro w9 hb9 hf9 hs9; have HB9 := hid hb9; have HF9 := hid hf9; have HSZ9 := hid hs9; clear hb9 hf9 hs9) | still_step | (with_reducible first | refine wpStill_nil ?_ | refine Flow.Both.mk ?_ ?_ | exact True.intro) | (with_reducible refine Flow.same_mk rfl rfl rfl ?_; go_simp; done) | (with_reducible exact Flow.same_un rfl rfl rfl) | (with_reducible refine Flow.region_flow (id := 8) [0, 0, 0, 6, 0, 0, 63, 127, 127, 511, 1023] 584 32 [(0, none), (1, none), (2, none), (4, none), (5, none), (3, some [5]), (6, some []), (7, none), (8, none), (9, some []), (10, none)] mixed ?hB ?_; (case hB => decide +kernel); simp only [Flow.textOf, Flow.q1, Flow.q2, Flow.q3, Flow.q4, Flow.q5, Flow.q6, Flow.q7, Flow.q8, Flow.q9, Flow.wpFl, Flow.SameAll]) | (refine Flow.region_still mixed ?hB ?_; (case hB => decide +kernel)))
      have hres := fun (C : Array Value) (hC : C.size = 4) (tmps : Array Value) (w : World) (b : Nat) (ha : tmps.getD 4 undef = .pointer (some ⟨b, 0, none⟩)) (hb : Blk w b C 37) => results_ct (P := Try.prog) Try.results57 ha hb hd4 hd5 (by rw [hC]; exact szLK)
      refine bodyPost_ret (hres _ rfl _ _ _ rfl HB9.out) rfl ?_
      have hF9 : Fr (fun x => x = w.heap.size) w3 w9 := by first | exact HF9.out | exact (Fr.refl _ _).drew.trans HF9.out (fun _ _ h => h)
      exact ⟨rfl, R3, HM3.out.fr hF9 HNS.out, HV3.out.1, HV3.out.2.1, HV3.out.2.2.trans hF9 (fun x hx e => by omega)⟩
    · go_wp2_with (first | (refine wpList_insert (n := 7) (u := cloV 71 B) rfl (.tmp 19) (.const (.int .i64 7)) (.tmp 21) (.inl rfl) under_does under_intS rfl rfl HM.out.1 rfl ?_; intro wn hm hf; have HM1 := hid (⟨hm, HM.out.2.trans hf (fun _ _ h => h)⟩ : _ ∧ Fr (fun x => x = w1.heap.size + 1) w0 wn); clear HM hm hf; have HM := HM1; clear HM1) | (refine wpList_insert (n := 4) (u := cloV 72 B) rfl (.tmp 19) (.const (.int .i64 4)) (.tmp 23) (.inl rfl) under_does under_intS rfl rfl HM.out.1 rfl ?_; intro wn hm hf; have HM1 := hid (⟨hm, HM.out.2.trans hf (fun _ _ h => h)⟩ : _ ∧ Fr (fun x => x = w1.heap.size + 1) w0 wn); clear HM hm hf; have HM := HM1; clear HM1) | (refine wpList_insert (n := 5) (u := cloV 73 B) rfl (.tmp 19) (.const (.int .i64 5)) (.tmp 25) (.inl rfl) under_does under_intS rfl rfl HM.out.1 rfl ?_; intro wn hm hf; have HM1 := hid (⟨hm, HM.out.2.trans hf (fun _ _ h => h)⟩ : _ ∧ Fr (fun x => x = w1.heap.size + 1) w0 wn); clear HM hm hf; have HM := HM1; clear HM1) | (refine wpList_insert (n := 9) (u := cloV 74 B) rfl (.tmp 19) (.const (.int .i64 9)) (.tmp 27) (.inl rfl) under_does under_intS rfl rfl HM.out.1 rfl ?_; intro wn hm hf; have HM1 := hid (⟨hm, HM.out.2.trans hf (fun _ _ h => h)⟩ : _ ∧ Fr (fun x => x = w1.heap.size + 1) w0 wn); clear HM hm hf; have HM := HM1; clear HM1) | (refine wpList_insert (n := 10) (u := cloV 75 B) rfl (.tmp 19) (.const (.int .i64 10)) (.tmp 29) (.inl rfl) under_does under_intS rfl rfl HM.out.1 rfl ?_; intro wn hm hf; have HM1 := hid (⟨hm, HM.out.2.trans hf (fun _ _ h => h)⟩ : _ ∧ Fr (fun x => x = w1.heap.size + 1) w0 wn); clear HM hm hf; have HM := HM1; clear HM1) | (refine wpList_insert (n := 11) (u := cloV 76 B) rfl (.tmp 19) (.const (.int .i64 11)) (.tmp 31) (.inl rfl) under_does under_intS rfl rfl HM.out.1 rfl ?_; intro wn hm hf; have HM1 := hid (⟨hm, HM.out.2.trans hf (fun _ _ h => h)⟩ : _ ∧ Fr (fun x => x = w1.heap.size + 1) w0 wn); clear HM hm hf; have HM := HM1; clear HM1) | (refine wpList_insert (n := 12) (u := cloV 77 B) rfl (.tmp 19) (.const (.int .i64 12)) (.tmp 33) (.inl rfl) under_does under_intS rfl rfl HM.out.1 rfl ?_; intro wn hm hf; have HM1 := hid (⟨hm, HM.out.2.trans hf (fun _ _ h => h)⟩ : _ ∧ Fr (fun x => x = w1.heap.size + 1) w0 wn); clear HM hm hf; have HM := HM1; clear HM1) | (refine wpList_insert (n := 13) (u := cloV 78 B) rfl (.tmp 19) (.const (.int .i64 13)) (.tmp 35) (.inl rfl) under_does under_intS rfl rfl HM.out.1 rfl ?_; intro wn hm hf; have HM1 := hid (⟨hm, HM.out.2.trans hf (fun _ _ h => h)⟩ : _ ∧ Fr (fun x => x = w1.heap.size + 1) w0 wn); clear HM hm hf; have HM := HM1; clear HM1; have hx := HX0.out.fr HM.out.2 (by omega); have c0_x := hx.cell 0; have c1_x := hx.cell 1; have c2_x := hx.cell 2; have c3_x := hx.cell 3; have c4_x := hx.cell 4; have c5_x := hx.cell 5; have c6_x := hx.cell 6; have HXn := hid hx; have HLn := hid (HL0.out.fr HM.out.2 (by omega)); have HFn := hid (HF0.out.trans (S := fun _ => False) HM.out.2 (fun k hk e => by omega)); have hl : (Instr.lookup 142 (.map (some (w1.heap.size + 1))) (.int .i64 kk) true).run Try.prog wn = .ok (.tuple #[(doesF B kk).getD .nilFunc, .bool (doesF B kk).isSome]) wn := (run_look under_does under_intS HM.out.1 kk (run_zero zero_does wn) true); rw [hd1] at hl; simp only [Option.getD_none, Option.getD_some, Option.isSome_none, Option.isSome_some] at hl; (try dsimp only [cloV] at hl); have hwn := HM.out.1.lt; clear hx HM HX0 HL0 HF0; have hnm1 : ¬ (w.heap.size = w1.heap.size) := (by omega); skip) | still_step | (with_reducible first | refine wpStill_nil ?_ | refine Flow.Both.mk ?_ ?_ | exact True.intro) | (with_reducible refine Flow.same_mk rfl rfl rfl ?_; go_simp; done) | (with_reducible exact Flow.same_un rfl rfl rfl) | (with_reducible refine Flow.region_flow (id := 8) [0, 0, 0, 6, 0, 0, 63, 127, 127, 511, 1023] 584 32 [(0, none), (1, none), (2, none), (4, none), (5, none), (3, some [5]), (6, some []), (7, none), (8, none), (9, some []), (10, none)] mixed ?hB ?_; (case hB => decide +kernel); simp only [Flow.textOf, Flow.q1, Flow.q2, Flow.q3, Flow.q4, Flow.q5, Flow.q6, Flow.q7, Flow.q8, Flow.q9, Flow.wpFl, Flow.SameAll]) | (refine Flow.region_still mixed ?hB ?_; (case hB => decide +kernel)))
      go_at_call 62
      refine (get_is B R ids m _ _ (HR.out.fr (S := fun _ => False) (by first | exact HFn.out | exact HFn.out.drew) (fun _ _ h => h))).mono ?_
      rintro e w2 ⟨rfl, hf⟩
      rw [h1]
      have hfd := (show Fr (fun _ => False) wn _ by (with_reducible repeat' (first | exact Fr.refl _ _ | apply Fr.alloc | apply Fr.drew | apply Fr.drewN | refine Fr.setCell ?_ ?_ _))).trans hf (fun _ _ h => h)
      have HF2 := hid (HFn.out.trans hfd (fun _ _ h => h))
      have HL2 := hid (HLn.out.fr hfd (fun h => h))
      have hy := HXn.out.fr hfd (fun h => h)
      have c0_y := Blk.cell hy 0
      have f0_y := Blk.free hy 0
      have c1_y := Blk.cell hy 1
      have f1_y := Blk.free hy 1
      have c2_y := Blk.cell hy 2
      have f2_y := Blk.free hy 2
      have c3_y := Blk.cell hy 3
      have f3_y := Blk.free hy 3
      have c4_y := Blk.cell hy 4
      have f4_y := Blk.free hy 4
      have c5_y := Blk.cell hy 5
      have f5_y := Blk.free hy 5
      have c6_y := Blk.cell hy 6
      have f6_y := Blk.free hy 6
      have l_y := Blk.lt hy
      clear hy
      clear c0_x c1_x c2_x c3_x c4_x c5_x c6_x hf hfd
      rcases doesN_cases kk with hN | hN | hN | hN | hN | hN | hN | hN | hN
      all_goals
        rw [hN]
        go_wp2_with (first | still_step | (with_reducible first | refine wpStill_nil ?_ | refine Flow.Both.mk ?_ ?_ | exact True.intro) | (with_reducible refine Flow.same_mk rfl rfl rfl ?_; go_simp; done) | (with_reducible exact Flow.same_un rfl rfl rfl) | (with_reducible refine Flow.region_flow (id := 8) [0, 0, 0, 6, 0, 0, 63, 127, 127, 511, 1023] 584 32 [(0, none), (1, none), (2, none), (4, none), (5, none), (3, some [5]), (6, some []), (7, none), (8, none), (9, some []), (10, none)] mixed ?hB ?_; (case hB => decide +kernel); simp only [Flow.textOf, Flow.q1, Flow.q2, Flow.q3, Flow.q4, Flow.q5, Flow.q6, Flow.q7, Flow.q8, Flow.q9, Flow.wpFl, Flow.SameAll]) | (refine Flow.region_still mixed ?hB ?_; (case hB => decide +kernel)))
        have hcall := HI.out w2 (HR.out.fr (S := fun _ => False) HF2.out (fun _ _ h => h))
        rw [show doesN ({ k := kk, op := op, d := d, a := a, b := b, n := n, to := to } : Ins).k = _ from hN] at hcall
        refine hcall.mono ?_
        clear hcall
        rintro e w3 ⟨rfl, R3, hm3, hv3⟩
        rw [← HRR.out] at hm3
        simp only [← HRR.out]
        dsimp only [leakV]
        have hvv := (Mv.of_fr (R := R) (show Fr (fun _ => False) w _ from by first | exact HF2.out | exact HF2.out.drew)).trans hv3
        have HL3 := hid (HL2.out.fr (w1 := w3) (S := R) (by first | exact hv3.2.2 | exact (Fr.refl _ _).drew.trans hv3.2.2 (fun _ _ h => h)) (fun hk => by have := HRL.out _ hk; omega))
        have HM3 := hid hm3
        have HV3 := hid hvv
        have HNS := hid (show ∀ x, R3 x → ¬ (x = w.heap.size) from fun x hx e => by
          rcases hv3.2.1 x hx with h | h
          · have := HRL.out _ h; omega
          · have := HL2.out.lt; (try simp at h); omega)
        clear hm3 hv3 hvv c0_y c1_y c2_y c3_y c4_y c5_y c6_y
        go_wp2_with (first | ((with_reducible apply wpList_storeA (b := w.heap.size) (C := #[.int .i64 0, .int .i64 0, .int .i64 0, .int .i64 0]) (T := 37)); (case zsx => rfl); (case zsy => rfl); (case zsn => rfl); (case zsi => exact szLK); (case zs1 => rfl); (case zsb => ((repeat' (first | with_reducible exact HL1.out | with_reducible exact HL2.out | with_reducible exact HL3.out | with_reducible exact HL4.out | with_reducible apply Blk.drew | with_reducible apply Blk.alloc | (with_reducible refine Blk.set_ne ?_ ?_ _))); all_goals (first | omega | (simp; omega) | (simp; done)))); intro w9 hb9 hf9 hs9; have HB9 := hid hb9; have HF9 := hid hf9; have HSZ9 := hid hs9; clear hb9 hf9 hs9) | still_step | (with_reducible first | refine wpStill_nil ?_ | refine Flow.Both.mk ?_ ?_ | exact True.intro) | (with_reducible refine Flow.same_mk rfl rfl rfl ?_; go_simp; done) | (with_reducible exact Flow.same_un rfl rfl rfl) | (with_reducible refine Flow.region_flow (id := 8) [0, 0, 0, 6, 0, 0, 63, 127, 127, 511, 1023] 584 32 [(0, none), (1, none), (2, none), (4, none), (5, none), (3, some [5]), (6, some []), (7, none), (8, none), (9, some []), (10, none)] mixed ?hB ?_; (case hB => decide +kernel); simp only [Flow.textOf, Flow.q1, Flow.q2, Flow.q3, Flow.q4, Flow.q5, Flow.q6, Flow.q7, Flow.q8, Flow.q9, Flow.wpFl, Flow.SameAll]) | (refine Flow.region_still mixed ?hB ?_; (case hB => decide +kernel)))
        have hres := fun (C : Array Value) (hC : C.size = 4) (tmps : Array Value) (w : World) (b : Nat) (ha : tmps.getD 4 undef = .pointer (some ⟨b, 0, none⟩)) (hb : Blk w b C 37) => results_ct (P := Try.prog) Try.results57 ha hb hd4 hd5 (by rw [hC]; exact szLK)
        refine bodyPost_ret (hres _ rfl _ _ _ rfl HB9.out) rfl ?_
        have hF9 : Fr (fun x => x = w.heap.size) w3 w9 := by first | exact HF9.out | exact (Fr.refl _ _).drew.trans HF9.out (fun _ _ h => h)
        exact ⟨rfl, R3, HM3.out.fr hF9 HNS.out, HV3.out.1, HV3.out.2.1, HV3.out.2.2.trans hF9 (fun x hx e => by omega)⟩
end Go.Proofs.Ytbfeopakmjcapaa.Tso
