/- Functions that the claim reaches, each as a plain Lean function with a proof that the Go call comes to what it answers, written by the printer of the kit for this claim over stand-in bodies whose own contracts are proved by hand. Conditions: the readings stated in each theorem. -/
import Derived.Test.YtghdfppllknabaaMost
import Derived.Test.YtghdfppllknabaaPVoteKnownx0
import Derived.Test.YtghdfppllknabaaPVoteKnownx1
namespace Go.Proofs.Ytghdfppllknabaa.PVoteKnown
open Go.RowKit Go.Proofs.YtghdfppllknabaaW.PrintWords Go.Proofs.YtghdfppllknabaaW.PrintLast Go.Proofs.YtghdfppllknabaaW.PrintMore
attribute [local go_sem] max2_int min2_int max_two min_two max_three min_three max_four min_four   -- for this text's walks alone
set_option linter.unusedVariables false
set_option linter.unusedSimpArgs false

attribute [local go_sem high] eqA29
-- NOT PRINTED: function 16 (vote_of)

-- NOT PRINTED: function 15 (vote_counts)

/-! ### vote_Most: function 12 -/
mutual
def vote_Most.l0 : Nat → List (S31) → Int → Option (Int × Int)
  | 0, _, _ => none
  | k + 1, x0, x3 => if x3 < (x0.length : Int) then (vote_Most.l1 k x0 x3 0 0) else (some (0, 0))
def vote_Most.l1 : Nat → List (S31) → Int → Int → Int → Option (Int × Int)
  | 0, _, _, _, _ => none
  | k + 1, x0, x3, x4, x5 => if x5 < (x0.length : Int) then (if 0 ≤ x5 then (if (rd_T31 x0 x5).f0 = true then (if 0 ≤ x3 then (if x3 < (x0.length : Int) then (if (((rd_T31 x0 x5).f1.f0) == ((rd_T31 x0 x3).f1.f0) && (((rd_T31 x0 x5).f1.f1) == ((rd_T31 x0 x3).f1.f1))) = true then (vote_Most.l1 k x0 x3 (wrap64 (x4 + 1)) (wrap64 (x5 + 1))) else (vote_Most.l1 k x0 x3 x4 (wrap64 (x5 + 1)))) else (none)) else (none)) else (vote_Most.l1 k x0 x3 x4 (wrap64 (x5 + 1)))) else (none)) else (if 0 ≤ x3 then (if x3 < (x0.length : Int) then (if (rd_T31 x0 x3).f0 = true then (if (wrap64 (2 * x4)) > (x0.length : Int) then (some ((rd_T31 x0 x3).f1.f0, (rd_T31 x0 x3).f1.f1)) else (vote_Most.l0 k x0 (wrap64 (x3 + 1)))) else (vote_Most.l0 k x0 (wrap64 (x3 + 1)))) else (none)) else (none))
end
def vote_Most.f (k : Nat) (l0 : List (S31)) : Option (Int × Int) := vote_Most.l0 k l0 0
theorem vote_Most.mono_l : ∀ k, (∀ y0 y1, LeO (vote_Most.l0 k y0 y1) (vote_Most.l0 (k + 1) y0 y1)) ∧ (∀ y0 y1 y2 y3, LeO (vote_Most.l1 k y0 y1 y2 y3) (vote_Most.l1 (k + 1) y0 y1 y2 y3))
  | 0 => ⟨fun _ _ r h => by simp [vote_Most.l0] at h, fun _ _ _ _ r h => by simp [vote_Most.l1] at h⟩
  | k + 1 => by
    obtain ⟨ih0, ih1⟩ := vote_Most.mono_l k
    refine ⟨?_, ?_⟩
    · intro y0 y1
      unfold vote_Most.l0
      repeat' first
      | (with_reducible exact ih0 _ _)
      | (with_reducible exact ih1 _ _ _ _)
      | (with_reducible exact LeO.refl _)
      | (with_reducible exact LeO.none _)
      | (with_reducible refine LeO.ite ?_ ?_)
      | (with_reducible refine LeO.bind ?_ (fun _ => ?_))
      | exact ih0 _ _
      | exact ih1 _ _ _ _
      | exact LeO.none _
      | refine LeO.ite ?_ ?_
      | refine LeO.bind ?_ (fun _ => ?_)
    · intro y0 y1 y2 y3
      unfold vote_Most.l1
      repeat' first
      | (with_reducible exact ih0 _ _)
      | (with_reducible exact ih1 _ _ _ _)
      | (with_reducible exact LeO.refl _)
      | (with_reducible exact LeO.none _)
      | (with_reducible refine LeO.ite ?_ ?_)
      | (with_reducible refine LeO.bind ?_ (fun _ => ?_))
      | exact ih0 _ _
      | exact ih1 _ _ _ _
      | exact LeO.none _
      | refine LeO.ite ?_ ?_
      | refine LeO.bind ?_ (fun _ => ?_)
theorem vote_Most.mono : ∀ a0 k, LeO (vote_Most.f k a0) (vote_Most.f (k + 1) a0) := by
  intro a0 k
  obtain ⟨ih0, ih1⟩ := vote_Most.mono_l k
  unfold vote_Most.f
  repeat' first
      | (with_reducible exact ih0 _ _)
      | (with_reducible exact ih1 _ _ _ _)
      | (with_reducible exact LeO.refl _)
      | (with_reducible exact LeO.none _)
      | (with_reducible refine LeO.ite ?_ ?_)
      | (with_reducible refine LeO.bind ?_ (fun _ => ?_))
      | exact ih0 _ _
      | exact ih1 _ _ _ _
      | exact LeO.none _
      | refine LeO.ite ?_ ?_
      | refine LeO.bind ?_ (fun _ => ?_)
/-- The votes of a list, one by one. -/
abbrev mIs (l : List S31) (i : Nat) : Bool := (rd_T31 l i).f0
abbrev mX (l : List S31) (i : Nat) : Int := (rd_T31 l i).f1.f0
abbrev mY (l : List S31) (i : Nat) : Int := (rd_T31 l i).f1.f1
open Counts in
theorem most_l1 (l : List S31) (hl : l.length ≤ 9223372036854775807) (i : Nat) (hi : i < l.length) (r : Int × Int) : ∀ (k : Nat) (j : Nat), j ≤ l.length →
    vote_Most.l1 k l i (cnt (mIs l) (mX l) (mY l) j (mX l i) (mY l i)) j = some r →
    ∃ k', k' < k ∧ (if mIs l i = true then (if wrap64 (2 * cnt (mIs l) (mX l) (mY l) l.length (mX l i) (mY l i)) > (l.length : Int) then some (mX l i, mY l i) else vote_Most.l0 k' l (wrap64 ((i : Int) + 1))) else vote_Most.l0 k' l (wrap64 ((i : Int) + 1))) = some r
  | 0, j, _, h => by simp [vote_Most.l1] at h
  | k + 1, j, hj, h => by
    simp only [vote_Most.l1] at h
    by_cases c : (j : Int) < (l.length : Int)
    · have hw : wrap64 ((j : Int) + 1) = ((j + 1 : Nat) : Int) := by unfold wrap64; omega
      have hb := cnt_bd (mIs l) (mX l) (mY l) (mX l i) (mY l i) j
      have hc : wrap64 (cnt (mIs l) (mX l) (mY l) j (mX l i) (mY l i) + 1) = cnt (mIs l) (mX l) (mY l) j (mX l i) (mY l i) + 1 := by
        generalize cnt (mIs l) (mX l) (mY l) j (mX l i) (mY l i) = q at *
        unfold wrap64
        omega
      have hs : cnt (mIs l) (mX l) (mY l) (j + 1) (mX l i) (mY l i) = if mIs l j = true ∧ mX l i = mX l j ∧ mY l i = mY l j then cnt (mIs l) (mX l) (mY l) j (mX l i) (mY l i) + 1 else cnt (mIs l) (mX l) (mY l) j (mX l i) (mY l i) := rfl
      rw [if_pos c, if_pos (by omega)] at h
      have go : vote_Most.l1 k l i (cnt (mIs l) (mX l) (mY l) (j + 1) (mX l i) (mY l i)) ((j + 1 : Nat) : Int) = some r := by
        by_cases c1 : (rd_T31 l j).f0 = true
        · rw [if_pos c1, if_pos (by omega), if_pos (by omega)] at h
          by_cases c2 : (((rd_T31 l j).f1.f0) == ((rd_T31 l i).f1.f0) && (((rd_T31 l j).f1.f1) == ((rd_T31 l i).f1.f1))) = true
          · rw [if_pos c2, hc, hw] at h
            simp only [Bool.and_eq_true, beq_iff_eq] at c2
            rw [hs, if_pos ⟨c1, c2.1.symm, c2.2.symm⟩]
            exact h
          · rw [if_neg c2, hw] at h
            simp only [Bool.and_eq_true, beq_iff_eq] at c2
            rw [hs, if_neg (fun g => c2 ⟨g.2.1.symm, g.2.2.symm⟩)]
            exact h
        · rw [if_neg c1, hw] at h
          rw [hs, if_neg (fun g => c1 g.1)]
          exact h
      obtain ⟨k', hk', e⟩ := most_l1 l hl i hi r k (j + 1) (by omega) go
      exact ⟨k', by omega, e⟩
    · obtain rfl : j = l.length := by omega
      rw [if_neg c, if_pos (by omega), if_pos (by omega)] at h
      exact ⟨k, Nat.lt_succ_self k, h⟩
open Counts in
theorem most_l0 (l : List S31) (hl : l.length ≤ 9223372036854775807) (r : Int × Int) : ∀ (K k : Nat), k < K → ∀ i : Nat, i ≤ l.length →
    vote_Most.l0 k l i = some r → mostFrom (mIs l) (mX l) (mY l) l.length (l.length - i) i = r
  | 0, k, hk, _, _, _ => absurd hk (Nat.not_lt_zero _)
  | K + 1, 0, _, i, _, h => by simp [vote_Most.l0] at h
  | K + 1, k + 1, hk, i, hi, h => by
    simp only [vote_Most.l0] at h
    by_cases c : (i : Int) < (l.length : Int)
    · rw [if_pos c] at h
      have hlt : i < l.length := by omega
      obtain ⟨k', hk', e⟩ := most_l1 l hl i hlt r k 0 (Nat.zero_le _) h
      have hw : wrap64 ((i : Int) + 1) = ((i + 1 : Nat) : Int) := by unfold wrap64; omega
      have hm : mostFrom (mIs l) (mX l) (mY l) l.length (l.length - i) i = if wins (mIs l) (mX l) (mY l) l.length i = true then (mX l i, mY l i) else mostFrom (mIs l) (mX l) (mY l) l.length (l.length - (i + 1)) (i + 1) := by
        rw [show l.length - i = (l.length - (i + 1)) + 1 from by omega]
        rfl
      have on := fun (e' : vote_Most.l0 k' l ((i + 1 : Nat) : Int) = some r) => most_l0 l hl r K k' (by omega) (i + 1) (by omega) e'
      rw [hm]
      rw [hw] at e
      by_cases c1 : mIs l i = true
      · rw [if_pos c1] at e
        by_cases c2 : wrap64 (2 * cnt (mIs l) (mX l) (mY l) l.length (mX l i) (mY l i)) > (l.length : Int)
        · rw [if_pos c2] at e
          by_cases c3 : (mX l i == 0 && mY l i == 0) = true
          · rw [if_neg (by unfold wins; rw [c3]; simp)]
            simp only [Bool.and_eq_true, beq_iff_eq] at c3
            rw [c3.1, c3.2] at c2 e
            rw [mostFrom_none _ _ _ _ (none_else _ _ _ _ hl c2)]
            exact Option.some.inj e
          · rw [if_pos (by unfold wins; rw [c1, Bool.eq_false_iff.mpr c3, decide_eq_true c2]; rfl)]
            exact Option.some.inj e
        · rw [if_neg c2] at e
          rw [if_neg (by unfold wins; rw [decide_eq_false c2]; simp)]
          exact on e
      · rw [if_neg c1] at e
        rw [if_neg (by unfold wins; rw [Bool.eq_false_iff.mpr c1]; simp)]
        exact on e
    · rw [if_neg c] at h
      have : l.length - i = 0 := by omega
      rw [this]
      exact Option.some.inj h
set_option maxHeartbeats 8000000 in
set_option maxRecDepth 100000 in
theorem vote_Most.calls (k : Nat) (A0 : Option Addr) (c0 : Nat) (l0 : List (S31)) (r1 : Int) (r2 : Int) (w : World) (hr0 : Kd.C k31 w A0 l0.length l0) (hc0 : l0.length ≤ c0) (h : vote_Most.f k l0 = some (r1, r2)) :
    Calls Try.prog 12 #[.slice A0 l0.length c0] w fun e w' => e = .returned (.agg #[.int .i64 r1, .int .i64 r2]) ∧ Below w.heap.size w w' := by
  have hl := Kd.C_max hr0
  have hv : Counts.Votes w A0 l0.length (mIs l0) (mX l0) (mY l0) := ⟨hl, fun i hi => by
    obtain ⟨ad, h1, h2, h3, h4⟩ := at_T31 hr0 (i : Int) (by omega) (by omega)
    exact ⟨ad, h1, h2, h3, h4⟩⟩
  exact Counts.most_any A0 l0.length c0 _ _ _ w hv hc0 r1 r2 (most_l0 l0 hl (r1, r2) (k + 1) k (Nat.lt_succ_self k) 0 (Nat.zero_le _) h)

/-! ### plaitinglaw15_known: function 9 -/
def plaitinglaw15_known.f (k : Nat)  : Option (Bool) := (vote_Most.f k ([] : List (S31))).bind fun bt108 => (if (bt108.1 == 0 && (bt108.2 == 0)) = true then ((vote_Most.f k (([(⟨true, (⟨2, 3⟩ : S29)⟩ : S31), (⟨false, (⟨0, 0⟩ : S29)⟩ : S31), (⟨true, (⟨2, 3⟩ : S29)⟩ : S31)] : List (S31)))).bind fun bt113 => (some (bt113.1 == 2 && (bt113.2 == 3)))) else (some false))
theorem plaitinglaw15_known.mono : ∀ k, LeO (plaitinglaw15_known.f k ) (plaitinglaw15_known.f (k + 1) ) := by
  intro  k
  unfold plaitinglaw15_known.f
  repeat' first
      | (with_reducible exact vote_Most.mono _ _)
      | (with_reducible exact LeO.refl _)
      | (with_reducible exact LeO.none _)
      | (with_reducible refine LeO.ite ?_ ?_)
      | (with_reducible refine LeO.bind ?_ (fun _ => ?_))
      | exact vote_Most.mono _ _
      | exact LeO.none _
      | refine LeO.ite ?_ ?_
      | refine LeO.bind ?_ (fun _ => ?_)
def plaitinglaw15_known.T2 : Bool × List (List Nat × List Nat) := (true, [([], []), ([], []), ([0, 1], [0, 1]), ([2, 0], [2]), ([3], [3]), ([4, 3], [3, 4]), ([3], [3]), ([3], [3]), ([7, 3], [3, 7]), ([5, 6, 8, 3], [3, 5, 6, 8]), ([9, 3, 3], [3, 9]), ([3], [3]), ([10, 11, 3], [3, 10, 11]), ([3, 12], [3, 12]), ([13, 10, 0, 1, 2, 3, 4, 5, 6, 7, 8, 9, 10, 11, 12, 13], [13])])
def plaitinglaw15_known.B2 : List Nat := [0, 0, 3, 7, 15, 31, 15, 15, 143, 511, 1023, 15, 4095, 8191, 16383]
theorem plaitinglaw15_known.tab2 : rtab .any (opsOf Try.f9 2) = plaitinglaw15_known.T2 := by kernel_rfl
theorem plaitinglaw15_known.bits2 : waitsOk plaitinglaw15_known.T2.2 plaitinglaw15_known.B2 = true := by kernel_rfl
set_option maxHeartbeats 8000000 in
set_option maxRecDepth 100000 in
theorem plaitinglaw15_known.calls (k : Nat)  (r : Bool) (w : World) (h : plaitinglaw15_known.f k  = some r) :
    Calls Try.prog 9 #[] w fun e w' => e = .returned (.bool r) ∧ Below w.heap.size w w' := by
  have hu29 := Try.underlying29
  have hu31 := Try.underlying31
  have HB := Aside0.mk (Below.refl w.heap.size w)
  have H : ((vote_Most.f k ([] : List (S31))).bind fun bt108 => (if (bt108.1 == 0 && (bt108.2 == 0)) = true then ((vote_Most.f k (([(⟨true, (⟨2, 3⟩ : S29)⟩ : S31), (⟨false, (⟨0, 0⟩ : S29)⟩ : S31), (⟨true, (⟨2, 3⟩ : S29)⟩ : S31)] : List (S31)))).bind fun bt113 => (some (bt113.1 == 2 && (bt113.2 == 3)))) else (some false))) = some r := h
  clear h
  replace H := Option.bind_eq_some_iff.mp H
  obtain ⟨⟨t108, t109⟩, A10, H⟩ := H
  replace H : (if (t108 == 0 && (t109 == 0)) = true then ((vote_Most.f k (([(⟨true, (⟨2, 3⟩ : S29)⟩ : S31), (⟨false, (⟨0, 0⟩ : S29)⟩ : S31), (⟨true, (⟨2, 3⟩ : S29)⟩ : S31)] : List (S31)))).bind fun bt113 => (some (bt113.1 == 2 && (bt113.2 == 3)))) else (some false)) = some r := H
  have A1 := Aside0.mk A10
  clear A10
  by_cases c2 : (t108 == 0 && (t109 == 0)) = true
  · rw [if_pos c2] at H
    have c2b0 : (t108 == 0 && (t109 == 0)) = true := c2
    (try (have c2b1 : decide (t108 = 0 && (t109 == 0)) = true := by simpa using c2))
    (try (have c2b2 : (t108 == 0 && (t109 == 0)) = true := by simpa using c2))
    clear c2
    obtain ⟨y110, hy110⟩ : ∃ y_ : List (S31), y_ = (([(⟨true, (⟨2, 3⟩ : S29)⟩ : S31), (⟨false, (⟨0, 0⟩ : S29)⟩ : S31), (⟨true, (⟨2, 3⟩ : S29)⟩ : S31)] : List (S31))) := ⟨_, rfl⟩
    replace H : ((vote_Most.f k y110).bind fun bt113 => (some (bt113.1 == 2 && (bt113.2 == 3)))) = some r := by first | (rw [hy110]; with_reducible exact H) | (have H2_ := (Option.bind_some _ _).symm.trans H; rw [hy110]; with_reducible exact H2_) | (have H2_ := (Option.bind_some _ _).symm.trans H; with_reducible exact H2_) | with_reducible exact H | (rw [hy110]; exact H) | exact H
    have Ny110 := Aside0.mk hy110
    clear hy110
    replace H := Option.bind_eq_some_iff.mp H
    obtain ⟨⟨t113, t114⟩, A30, H⟩ := H
    replace H : (some (t113 == 2 && (t114 == 3))) = some r := H
    have A3 := Aside0.mk A30
    clear A30
    obtain rfl := Option.some.inj H
    go_enter Try.func9, Try.ntmps9
    try go_wp2_with (first | ((with_reducible refine gate_dst (N := 1) rfl ?_); (try (refine gate_guard (by rfl) ?_; dsimp only)); refine box_event ?hg (N := 1) ?hd (cs := #[.int .i64 0, .int .i64 0]) (t := 29) ?hr ?_; (case hd => rfl); (case hg => rfl); (case hr => first | (go_simp; done) | (go_simp; rfl)); intro gb107 hg w4 hbox hb; have n0_ := Aside0.mk (below_step (by repeat (first | (with_reducible first | exact HB.out | apply below_alloc | apply pw_below_drewN | apply below_drew1) | exact HB.out)) hb); have n1_ := Aside0.mk (hbox); have n2_ := Aside0.mk ((by rw [hg]; exact (below_size (by repeat (first | (with_reducible first | exact HB.out | apply below_alloc | apply pw_below_drewN | apply below_drew1) | exact HB.out))) : w.heap.size ≤ gb107)); have n3_ := Aside0.mk ((by rw [hg]; exact (below_size (by repeat (first | (with_reducible first | exact HB.out | apply below_alloc | apply pw_below_drewN | apply below_drew1) | exact HB.out))) : w.heap.size ≤ gb107)); clear HB; have HB := n0_; have BK107 := n1_; have GW107 := n2_; have GE107 := n3_; clear n0_ n1_ n2_ n3_; clear hb hbox hg; have hcz5_0 : w4.cell? ⟨gb107, 0, none⟩ = some (.int .i64 0) := (blk_cell BK107.out 0).trans rfl; have hcz5_1 : w4.cell? ⟨gb107, 1, none⟩ = some (.int .i64 0) := (blk_cell BK107.out 1).trans rfl; have hfz5_0 := blk_frozen BK107.out 0; have hfz5_1 := blk_frozen BK107.out 1))
    have n0_ : Aside0 (((w4.setCell ⟨gb107, 0, none⟩ (.int .i64 2)).setCell ⟨gb107, 1, none⟩ (.int .i64 3)).heap[gb107]? = some (.cells #[.int .i64 2, .int .i64 3] 29 (0, 0))) := ⟨by (with_reducible repeat (first | refine blk_drewN ?_ _ | refine blk_drew ?_ | refine blk_alloc ?_ _)); refine blk_put (cs := #[.int .i64 2, .int .i64 0]) ?_ 1 _ rfl; (with_reducible repeat (first | refine blk_drewN ?_ _ | refine blk_drew ?_ | refine blk_alloc ?_ _)); refine blk_put (cs := #[.int .i64 0, .int .i64 0]) ?_ 0 _ rfl; (with_reducible repeat (first | refine blk_drewN ?_ _ | refine blk_drew ?_ | refine blk_alloc ?_ _)); exact BK107.out⟩
    have n1_ : Aside0 (Below w.heap.size w ((w4.setCell ⟨gb107, 0, none⟩ (.int .i64 2)).setCell ⟨gb107, 1, none⟩ (.int .i64 3))) := ⟨by repeat (first | (with_reducible first | exact HB.out | apply below_alloc | apply pw_below_drewN | apply below_drew1 | refine below_set ?_ GE107.out) | exact HB.out)⟩
    (try clear BK107)
    (try clear HB)
    generalize ((w4.setCell ⟨gb107, 0, none⟩ (.int .i64 2)).setCell ⟨gb107, 1, none⟩ (.int .i64 3)) = w6 at n0_ n1_ ⊢
    have BK107 := n0_
    have HB := n1_
    clear n0_ n1_
    have n0_ := Aside0.mk (blk_drew BK107.out)
    have n1_ := Aside0.mk (below_drew1 HB.out)
    clear BK107
    clear HB
    have BK107 := n0_
    have HB := n1_
    clear n0_ n1_
    refine start_ (n := 15) (S := fun w' => w'.cell? ⟨gb107, 0, none⟩ = some (.int .i64 2) ∧ w'.cell? ⟨gb107, 1, none⟩ = some (.int .i64 3)) (ds := []) #[false, false, false, false, false, false, false, false, false, false, false, false, false, false, false] (by kernel_rfl) rfl rfl ⟨(blk_cell BK107.out 0).trans rfl, (blk_cell BK107.out 1).trans rfl⟩ (fun hHeld => ?_); refine with_tabW plaitinglaw15_known.tab2 plaitinglaw15_known.bits2 (fun HT_ HW_ => ?_)
    generalize w6.drew = w7 at BK107 HB hHeld ⊢
    refine pure_ (i := 1) (N := some 4) (v := ?_) (a' := ?_) #[false, true, false, false, false, false, false, false, false, false, false, false, false, false, false] rfl rfl (any_of HT_.out (by kernel_rfl)) (fun _ _ _ h => h) (Or.inl ⟨by rfl, ?_⟩) ?_ ?_
    rotate_left
    · intro w'
      go_simp
      with_reducible rfl
    rotate_left
    · simp only [Act.put, List.setIfInBounds_toArray, List.set_cons_zero, List.set_cons_succ, i64_w, i32_w]
      rfl
    refine one_ (i := 0) (N := some 3) #[true, true, false, false, false, false, false, false, false, false, false, false, false, false, false] rfl rfl (one_of HT_.out (by kernel_rfl)) (by decide) (fun K hK => ?_)
    refine goes_ Try.func12 (by kernel_rfl) rfl #[.slice none 0 0] (by rfl) rfl rfl (by (try simp only [List.map_toArray, List.map_cons, List.map_nil]); first | done | rfl | (simp only [List.length_drop, List.length_take]; rfl)) ?_
    refine (vote_Most.calls k _ _ ([] : List (S31)) t108 t109 _ ?side1 ?side2 A1.out).mono ?_
    (case side1 => exact Kd.C_nil _ _)
    (case side2 => exact Nat.le_refl _)
    rintro e w8 ⟨rfl, hb⟩
    refine ⟨_, rfl, ?_⟩
    have n0_ := Aside0.mk (blk_below (g := gb107) (o := .cells #[.int .i64 2, .int .i64 3] 29 (0, 0)) (by (with_reducible repeat (first | refine blk_drewN ?_ _ | refine blk_drew ?_ | refine blk_alloc ?_ _)); exact BK107.out) hb)
    have n1_ := Aside0.mk (below_step (by repeat (first | (with_reducible first | exact HB.out | apply below_alloc | apply pw_below_drewN | apply below_drew1 | refine below_set ?_ GE107.out) | exact HB.out)) hb)
    clear BK107
    clear HB
    have BK107 := n0_
    have HB := n1_
    clear n0_ n1_
    (try clear hb)
    (try clear hb2)
    (try clear hk)
    (try clear hi)
    refine hK.out _ _ ⟨(blk_cell BK107.out 0).trans rfl, (blk_cell BK107.out 1).trans rfl⟩ (fun hHeld => ?_)
    clear hK K
    refine norm_ (a' := ?_) ?_ ?_
    rotate_left
    · show Act.put _ (some 3) _ = _
      simp only [Act.put, List.setIfInBounds_toArray, List.set_cons_zero, List.set_cons_succ, i64_w, i32_w]
      rfl
    refine pure_ (i := 2) (N := some 5) (v := ?_) (a' := ?_) #[true, true, true, false, false, false, false, false, false, false, false, false, false, false, false] rfl rfl (any_of HT_.out (by kernel_rfl)) (fun _ _ _ h => h) (Or.inl ⟨by rfl, ?_⟩) ?_ ?_
    rotate_left
    · intro w'
      go_simp
      with_reducible rfl
    rotate_left
    · simp only [Act.put, List.setIfInBounds_toArray, List.set_cons_zero, List.set_cons_succ, i64_w, i32_w]
      rfl
    refine pure_ (i := 3) (N := some 6) (v := ?_) (a' := ?_) #[true, true, true, true, false, false, false, false, false, false, false, false, false, false, false] rfl rfl (any_of HT_.out (by kernel_rfl)) (fun _ _ _ h => h) (Or.inl ⟨by rfl, ?_⟩) ?_ ?_
    rotate_left
    · intro w'
      go_simp
      with_reducible rfl
    rotate_left
    · simp only [Act.put, List.setIfInBounds_toArray, List.set_cons_zero, List.set_cons_succ, i64_w, i32_w]
      rfl
    refine pure_ (i := 6) (N := some 9) (v := ?_) (a' := ?_) #[true, true, true, true, false, false, true, false, false, false, false, false, false, false, false] rfl rfl (any_of HT_.out (by kernel_rfl)) (fun _ _ _ h => h) (Or.inl ⟨by rfl, ?_⟩) ?_ ?_
    rotate_left
    · intro w'
      go_simp
      with_reducible rfl
    rotate_left
    · simp only [Act.put, List.setIfInBounds_toArray, List.set_cons_zero, List.set_cons_succ, i64_w, i32_w]
      rfl
    refine take_ (i := 4) (N := some 7) (v := ?_) (a' := ?_) #[true, true, true, true, true, false, true, false, false, false, false, false, false, false, false] rfl rfl (take_ofW HT_.out HW_.out (by kernel_rfl)) (fun _ _ _ h => h) (Or.inl ⟨by rfl, ?_⟩) hHeld ?_ ?_
    rotate_left
    · rintro w' ⟨s0, s1⟩
      go_simp
      with_reducible rfl
    rotate_left
    · simp only [Act.put, List.setIfInBounds_toArray, List.set_cons_zero, List.set_cons_succ, i64_w, i32_w]
      rfl
    refine pure_ (i := 5) (N := some 8) (v := ?_) (a' := ?_) #[true, true, true, true, true, true, true, false, false, false, false, false, false, false, false] rfl rfl (any_of HT_.out (by kernel_rfl)) (fun _ _ _ h => h) (Or.inl ⟨by rfl, ?_⟩) ?_ ?_
    rotate_left
    · intro w'
      go_simp
      with_reducible rfl
    rotate_left
    · simp only [Act.put, List.setIfInBounds_toArray, List.set_cons_zero, List.set_cons_succ, i64_w, i32_w]
      rfl
    refine take_ (i := 7) (N := some 10) (v := ?_) (a' := ?_) #[true, true, true, true, true, true, true, true, false, false, false, false, false, false, false] rfl rfl (take_ofW HT_.out HW_.out (by kernel_rfl)) (fun _ _ _ h => h) (Or.inl ⟨by rfl, ?_⟩) hHeld ?_ ?_
    rotate_left
    · rintro w' ⟨s0, s1⟩
      go_simp
      with_reducible rfl
    rotate_left
    · simp only [Act.put, List.setIfInBounds_toArray, List.set_cons_zero, List.set_cons_succ, i64_w, i32_w]
      rfl
    refine pure_ (i := 8) (N := some 11) (v := ?_) (a' := ?_) #[true, true, true, true, true, true, true, true, true, false, false, false, false, false, false] rfl rfl (any_of HT_.out (by kernel_rfl)) (fun _ _ _ h => h) (Or.inl ⟨by rfl, ?_⟩) ?_ ?_
    rotate_left
    · intro w'
      go_simp
      with_reducible rfl
    rotate_left
    · simp only [Act.put, List.setIfInBounds_toArray, List.set_cons_zero, List.set_cons_succ, i64_w, i32_w]
      rfl
    refine take_ (i := 11) (N := some 14) (v := ?_) (a' := ?_) #[true, true, true, true, true, true, true, true, true, false, false, true, false, false, false] rfl rfl (take_ofW HT_.out HW_.out (by kernel_rfl)) (fun _ _ _ h => h) (Or.inl ⟨by rfl, ?_⟩) hHeld ?_ ?_
    rotate_left
    · rintro w' ⟨s0, s1⟩
      go_simp
      with_reducible rfl
    rotate_left
    · simp only [Act.put, List.setIfInBounds_toArray, List.set_cons_zero, List.set_cons_succ, i64_w, i32_w]
      rfl
    refine one_ (i := 9) (N := some 12) #[true, true, true, true, true, true, true, true, true, true, false, true, false, false, false] rfl rfl (one_of HT_.out (by kernel_rfl)) (by decide) (fun K hK => ?_)
    refine Kd.R_lit_step k31 _ 31 ?hg (N := 12) ?hd (xs := ([(⟨true, (⟨2, 3⟩ : S29)⟩ : S31), (⟨false, (⟨0, 0⟩ : S29)⟩ : S31), (⟨true, (⟨2, 3⟩ : S29)⟩ : S31)] : List (S31))) (inner := [.bool true, .int .i64 2, .int .i64 3, .bool false, .int .i64 0, .int .i64 0, .bool true, .int .i64 2, .int .i64 3]) (ok := fun _ => True) (okp := fun _ => True) ?hr ?hp (fun _ hk => hk) trivial (Below.refl _ _) (Nat.le_refl _) (by simp) ?_; (case hd => rfl); (case hg => rfl); (case hr => first | (go_simp; done) | (go_simp; rfl)); (case hp => exact (Reps.c3 (show Kd.M k31 _ _ _ (⟨true, (⟨2, 3⟩ : S29)⟩ : S31) [.bool true, .int .i64 2, .int .i64 3] from (k31_mkM _ _ _ (⟨true, (⟨2, 3⟩ : S29)⟩ : S31) )) (Reps.c3 (show Kd.M k31 _ _ _ (⟨false, (⟨0, 0⟩ : S29)⟩ : S31) [.bool false, .int .i64 0, .int .i64 0] from (k31_mkM _ _ _ (⟨false, (⟨0, 0⟩ : S29)⟩ : S31) )) (Reps.c3 (show Kd.M k31 _ _ _ (⟨true, (⟨2, 3⟩ : S29)⟩ : S31) [.bool true, .int .i64 2, .int .i64 3] from (k31_mkM _ _ _ (⟨true, (⟨2, 3⟩ : S29)⟩ : S31) )) (Reps.none _ _)))))
    intro v111 w9 ho10 hb hg_ hnew_
    clear hg_ hnew_
    (first | rw [← Ny110.out] at ho10 | (simp only [Int.reduceToNat] at ho10; rw [← Ny110.out] at ho10))
    have n0_ := Aside0.mk (Kd.R_lower ho10 (below_size (by repeat (first | (with_reducible first | exact HB.out | apply below_alloc | apply pw_below_drewN | apply below_drew1 | refine below_set ?_ GE107.out) | exact HB.out))))
    have n1_ := Aside0.mk (blk_below (g := gb107) (o := .cells #[.int .i64 2, .int .i64 3] 29 (0, 0)) (by (with_reducible repeat (first | refine blk_drewN ?_ _ | refine blk_drew ?_ | refine blk_alloc ?_ _)); exact BK107.out) hb)
    have n2_ := Aside0.mk (below_step (by repeat (first | (with_reducible first | exact HB.out | apply below_alloc | apply pw_below_drewN | apply below_drew1 | refine below_set ?_ GE107.out) | exact HB.out)) hb)
    clear BK107
    clear HB
    have HO112 := n0_
    have BK107 := n1_
    have HB := n2_
    clear n0_ n1_ n2_
    clear hb ho10
    obtain ⟨Ao11, co11, eo11⟩ := Kd.R_slice HO112.out
    (first | subst eo11 | (injection eo11 with f1_ f2_ f3_; have f4_ := f1_.symm; have f5_ := f3_.symm; clear f1_ f2_ f3_; subst f4_; subst f5_))
    refine hK.out _ _ ⟨(blk_cell BK107.out 0).trans rfl, (blk_cell BK107.out 1).trans rfl⟩ (fun hHeld => ?_)
    clear hK K
    refine norm_ (a' := ?_) ?_ ?_
    rotate_left
    · show Act.put _ (some 12) _ = _
      simp only [Act.put, List.setIfInBounds_toArray, List.set_cons_zero, List.set_cons_succ, i64_w, i32_w]
      rfl
    refine one_ (i := 10) (N := some 13) #[true, true, true, true, true, true, true, true, true, true, true, true, false, false, false] rfl rfl (one_of HT_.out (by kernel_rfl)) (by decide) (fun K hK => ?_)
    refine goes_ Try.func12 (by kernel_rfl) rfl #[.slice Ao11 y110.length co11] (by rfl) rfl rfl (by (try simp only [List.map_toArray, List.map_cons, List.map_nil]); first | done | rfl | (simp only [List.length_drop, List.length_take]; rfl)) ?_
    with_reducible refine (vote_Most.calls k _ _ y110 t113 t114 _ ?side1 ?side2 A3.out).mono ?_
    (case side1 => repeat (first | exact (Kd.R_reads' HO112.out).2.2 | (with_reducible refine Kd.C_alloc ?_ _) | (with_reducible refine Kd.C_drewN ?_ _) | (with_reducible refine Kd.C_drew ?_)))
    (case side2 => exact (Kd.R_reads' HO112.out).2.1)
    rintro e w12 ⟨rfl, hb⟩
    refine ⟨_, rfl, ?_⟩
    have n0_ := Aside0.mk (Kd.R_below (by (with_reducible repeat (first | apply Kd.R_alloc | apply Kd.R_drewN | apply Kd.R_drew)); exact HO112.out) hb)
    have n1_ := Aside0.mk (blk_below (g := gb107) (o := .cells #[.int .i64 2, .int .i64 3] 29 (0, 0)) (by (with_reducible repeat (first | refine blk_drewN ?_ _ | refine blk_drew ?_ | refine blk_alloc ?_ _)); exact BK107.out) hb)
    have n2_ := Aside0.mk (below_step (by repeat (first | (with_reducible first | exact HB.out | apply below_alloc | apply pw_below_drewN | apply below_drew1 | refine below_set ?_ GE107.out) | exact HB.out)) hb)
    clear HO112
    clear BK107
    clear HB
    have HO112 := n0_
    have BK107 := n1_
    have HB := n2_
    clear n0_ n1_ n2_
    (try clear hb)
    (try clear hb2)
    (try clear hk)
    (try clear hi)
    refine hK.out _ _ ⟨(blk_cell BK107.out 0).trans rfl, (blk_cell BK107.out 1).trans rfl⟩ (fun hHeld => ?_)
    clear hK K
    refine norm_ (a' := ?_) ?_ ?_
    rotate_left
    · show Act.put _ (some 13) _ = _
      simp only [Act.put, List.setIfInBounds_toArray, List.set_cons_zero, List.set_cons_succ, i64_w, i32_w]
      rfl
    refine pure_ (i := 12) (N := some 15) (v := ?_) (a' := ?_) #[true, true, true, true, true, true, true, true, true, true, true, true, true, false, false] rfl rfl (any_of HT_.out (by kernel_rfl)) (fun _ _ _ h => h) (Or.inl ⟨by rfl, ?_⟩) ?_ ?_
    rotate_left
    · intro w'
      go_simp
      with_reducible rfl
    rotate_left
    · simp only [Act.put, List.setIfInBounds_toArray, List.set_cons_zero, List.set_cons_succ, i64_w, i32_w]
      rfl
    refine pure_ (i := 13) (N := some 16) (v := ?_) (a' := ?_) #[true, true, true, true, true, true, true, true, true, true, true, true, true, true, false] rfl rfl (any_of HT_.out (by kernel_rfl)) (fun _ _ _ h => h) (Or.inl ⟨by rfl, ?_⟩) ?_ ?_
    rotate_left
    · intro w'
      go_simp
      with_reducible rfl
    rotate_left
    · simp only [Act.put, List.setIfInBounds_toArray, List.set_cons_zero, List.set_cons_succ, i64_w, i32_w]
      rfl
    refine pure_ (i := 14) (N := some 0) (v := ?_) (a' := ?_) #[true, true, true, true, true, true, true, true, true, true, true, true, true, true, true] rfl rfl (any_of HT_.out (by kernel_rfl)) (fun _ _ _ h => h) (Or.inl ⟨by rfl, ?_⟩) ?_ ?_
    rotate_left
    · intro w'
      go_simp
      with_reducible rfl
    rotate_left
    · simp only [Act.put, List.setIfInBounds_toArray, List.set_cons_zero, List.set_cons_succ, i64_w, i32_w]
      rfl
    refine done_ (done_of HT_.out (by kernel_rfl)) ?_
    try go_wp2
    go_ret
    exact ⟨by first | rfl | (simp [errW_none, errW_some] <;> rfl) | (simp [*, errW_none, errW_some] <;> rfl), by repeat (first | (with_reducible first | exact HB.out | apply below_alloc | apply pw_below_drewN | apply below_drew1 | refine below_set ?_ GE107.out) | exact HB.out)⟩
  · rw [if_neg c2] at H
    have c2b0 : (t108 == 0 && (t109 == 0)) = false := by simpa using c2
    (try (have c2b1 : decide (t108 = 0 && (t109 == 0)) = false := by simpa using c2))
    (try (have c2b2 : (t108 == 0 && (t109 == 0)) = false := by simpa using c2))
    (try (have c2b3 : ¬ (t108 = 0 && (t109 == 0)) := by simpa using c2))
    clear c2
    obtain rfl := Option.some.inj H
    go_enter Try.func9, Try.ntmps9
    try go_wp2_with (first | ((with_reducible refine gate_dst (N := 1) rfl ?_); (try (refine gate_guard (by rfl) ?_; dsimp only)); refine box_event ?hg (N := 1) ?hd (cs := #[.int .i64 0, .int .i64 0]) (t := 29) ?hr ?_; (case hd => rfl); (case hg => rfl); (case hr => first | (go_simp; done) | (go_simp; rfl)); intro gb107 hg w13 hbox hb; have n0_ := Aside0.mk (below_step (by repeat (first | (with_reducible first | exact HB.out | apply below_alloc | apply pw_below_drewN | apply below_drew1) | exact HB.out)) hb); have n1_ := Aside0.mk (hbox); have n2_ := Aside0.mk ((by rw [hg]; exact (below_size (by repeat (first | (with_reducible first | exact HB.out | apply below_alloc | apply pw_below_drewN | apply below_drew1) | exact HB.out))) : w.heap.size ≤ gb107)); have n3_ := Aside0.mk ((by rw [hg]; exact (below_size (by repeat (first | (with_reducible first | exact HB.out | apply below_alloc | apply pw_below_drewN | apply below_drew1) | exact HB.out))) : w.heap.size ≤ gb107)); clear HB; have HB := n0_; have BK107 := n1_; have GW107 := n2_; have GE107 := n3_; clear n0_ n1_ n2_ n3_; clear hb hbox hg; have hcz14_0 : w13.cell? ⟨gb107, 0, none⟩ = some (.int .i64 0) := (blk_cell BK107.out 0).trans rfl; have hcz14_1 : w13.cell? ⟨gb107, 1, none⟩ = some (.int .i64 0) := (blk_cell BK107.out 1).trans rfl; have hfz14_0 := blk_frozen BK107.out 0; have hfz14_1 := blk_frozen BK107.out 1))
    have n0_ : Aside0 (((w13.setCell ⟨gb107, 0, none⟩ (.int .i64 2)).setCell ⟨gb107, 1, none⟩ (.int .i64 3)).heap[gb107]? = some (.cells #[.int .i64 2, .int .i64 3] 29 (0, 0))) := ⟨by (with_reducible repeat (first | refine blk_drewN ?_ _ | refine blk_drew ?_ | refine blk_alloc ?_ _)); refine blk_put (cs := #[.int .i64 2, .int .i64 0]) ?_ 1 _ rfl; (with_reducible repeat (first | refine blk_drewN ?_ _ | refine blk_drew ?_ | refine blk_alloc ?_ _)); refine blk_put (cs := #[.int .i64 0, .int .i64 0]) ?_ 0 _ rfl; (with_reducible repeat (first | refine blk_drewN ?_ _ | refine blk_drew ?_ | refine blk_alloc ?_ _)); exact BK107.out⟩
    have n1_ : Aside0 (Below w.heap.size w ((w13.setCell ⟨gb107, 0, none⟩ (.int .i64 2)).setCell ⟨gb107, 1, none⟩ (.int .i64 3))) := ⟨by repeat (first | (with_reducible first | exact HB.out | apply below_alloc | apply pw_below_drewN | apply below_drew1 | refine below_set ?_ GE107.out) | exact HB.out)⟩
    (try clear BK107)
    (try clear HB)
    generalize ((w13.setCell ⟨gb107, 0, none⟩ (.int .i64 2)).setCell ⟨gb107, 1, none⟩ (.int .i64 3)) = w15 at n0_ n1_ ⊢
    have BK107 := n0_
    have HB := n1_
    clear n0_ n1_
    have n0_ := Aside0.mk (blk_drew BK107.out)
    have n1_ := Aside0.mk (below_drew1 HB.out)
    clear BK107
    clear HB
    have BK107 := n0_
    have HB := n1_
    clear n0_ n1_
    refine start_ (n := 15) (S := fun w' => True) (ds := []) #[false, false, false, false, false, false, false, false, false, false, false, false, false, false, false] (by kernel_rfl) rfl rfl trivial (fun hHeld => ?_); refine with_tabW plaitinglaw15_known.tab2 plaitinglaw15_known.bits2 (fun HT_ HW_ => ?_)
    generalize w15.drew = w16 at BK107 HB hHeld ⊢
    refine pure_ (i := 1) (N := some 4) (v := ?_) (a' := ?_) #[false, true, false, false, false, false, false, false, false, false, false, false, false, false, false] rfl rfl (any_of HT_.out (by kernel_rfl)) (fun _ _ _ h => h) (Or.inl ⟨by rfl, ?_⟩) ?_ ?_
    rotate_left
    · intro w'
      go_simp
      with_reducible rfl
    rotate_left
    · simp only [Act.put, List.setIfInBounds_toArray, List.set_cons_zero, List.set_cons_succ, i64_w, i32_w]
      rfl
    refine one_ (i := 0) (N := some 3) #[true, true, false, false, false, false, false, false, false, false, false, false, false, false, false] rfl rfl (one_of HT_.out (by kernel_rfl)) (by decide) (fun K hK => ?_)
    refine goes_ Try.func12 (by kernel_rfl) rfl #[.slice none 0 0] (by rfl) rfl rfl (by (try simp only [List.map_toArray, List.map_cons, List.map_nil]); first | done | rfl | (simp only [List.length_drop, List.length_take]; rfl)) ?_
    refine (vote_Most.calls k _ _ ([] : List (S31)) t108 t109 _ ?side1 ?side2 A1.out).mono ?_
    (case side1 => exact Kd.C_nil _ _)
    (case side2 => exact Nat.le_refl _)
    rintro e w17 ⟨rfl, hb⟩
    refine ⟨_, rfl, ?_⟩
    have n0_ := Aside0.mk (blk_below (g := gb107) (o := .cells #[.int .i64 2, .int .i64 3] 29 (0, 0)) (by (with_reducible repeat (first | refine blk_drewN ?_ _ | refine blk_drew ?_ | refine blk_alloc ?_ _)); exact BK107.out) hb)
    have n1_ := Aside0.mk (below_step (by repeat (first | (with_reducible first | exact HB.out | apply below_alloc | apply pw_below_drewN | apply below_drew1 | refine below_set ?_ GE107.out) | exact HB.out)) hb)
    clear BK107
    clear HB
    have BK107 := n0_
    have HB := n1_
    clear n0_ n1_
    (try clear hb)
    (try clear hb2)
    (try clear hk)
    (try clear hi)
    refine hK.out _ _ trivial (fun hHeld => ?_)
    clear hK K
    refine norm_ (a' := ?_) ?_ ?_
    rotate_left
    · show Act.put _ (some 3) _ = _
      simp only [Act.put, List.setIfInBounds_toArray, List.set_cons_zero, List.set_cons_succ, i64_w, i32_w]
      rfl
    refine pure_ (i := 2) (N := some 5) (v := ?_) (a' := ?_) #[true, true, true, false, false, false, false, false, false, false, false, false, false, false, false] rfl rfl (any_of HT_.out (by kernel_rfl)) (fun _ _ _ h => h) (Or.inl ⟨by rfl, ?_⟩) ?_ ?_
    rotate_left
    · intro w'
      go_simp
      with_reducible rfl
    rotate_left
    · simp only [Act.put, List.setIfInBounds_toArray, List.set_cons_zero, List.set_cons_succ, i64_w, i32_w]
      rfl
    refine pure_ (i := 3) (N := some 6) (v := ?_) (a' := ?_) #[true, true, true, true, false, false, false, false, false, false, false, false, false, false, false] rfl rfl (any_of HT_.out (by kernel_rfl)) (fun _ _ _ h => h) (Or.inl ⟨by rfl, ?_⟩) ?_ ?_
    rotate_left
    · intro w'
      go_simp
      with_reducible rfl
    rotate_left
    · simp only [Act.put, List.setIfInBounds_toArray, List.set_cons_zero, List.set_cons_succ, i64_w, i32_w]
      rfl
    refine pure_ (i := 4) (N := some 7) (v := undef) (a' := ?_) #[true, true, true, true, true, false, false, false, false, false, false, false, false, false, false] rfl rfl (any_of HT_.out (by kernel_rfl)) (fun _ _ _ h => h) (Or.inr ⟨by rfl, rfl⟩) ?_ ?_
    rotate_left
    · simp only [Act.put, List.setIfInBounds_toArray, List.set_cons_zero, List.set_cons_succ, i64_w, i32_w]
      rfl
    refine pure_ (i := 5) (N := some 8) (v := undef) (a' := ?_) #[true, true, true, true, true, true, false, false, false, false, false, false, false, false, false] rfl rfl (any_of HT_.out (by kernel_rfl)) (fun _ _ _ h => h) (Or.inr ⟨by rfl, rfl⟩) ?_ ?_
    rotate_left
    · simp only [Act.put, List.setIfInBounds_toArray, List.set_cons_zero, List.set_cons_succ, i64_w, i32_w]
      rfl
    refine pure_ (i := 6) (N := some 9) (v := undef) (a' := ?_) #[true, true, true, true, true, true, true, false, false, false, false, false, false, false, false] rfl rfl (any_of HT_.out (by kernel_rfl)) (fun _ _ _ h => h) (Or.inr ⟨by rfl, rfl⟩) ?_ ?_
    rotate_left
    · simp only [Act.put, List.setIfInBounds_toArray, List.set_cons_zero, List.set_cons_succ, i64_w, i32_w]
      rfl
    refine pure_ (i := 7) (N := some 10) (v := undef) (a' := ?_) #[true, true, true, true, true, true, true, true, false, false, false, false, false, false, false] rfl rfl (any_of HT_.out (by kernel_rfl)) (fun _ _ _ h => h) (Or.inr ⟨by rfl, rfl⟩) ?_ ?_
    rotate_left
    · simp only [Act.put, List.setIfInBounds_toArray, List.set_cons_zero, List.set_cons_succ, i64_w, i32_w]
      rfl
    refine pure_ (i := 8) (N := some 11) (v := undef) (a' := ?_) #[true, true, true, true, true, true, true, true, true, false, false, false, false, false, false] rfl rfl (any_of HT_.out (by kernel_rfl)) (fun _ _ _ h => h) (Or.inr ⟨by rfl, rfl⟩) ?_ ?_
    rotate_left
    · simp only [Act.put, List.setIfInBounds_toArray, List.set_cons_zero, List.set_cons_succ, i64_w, i32_w]
      rfl
    refine pure_ (i := 9) (N := some 12) (v := undef) (a' := ?_) #[true, true, true, true, true, true, true, true, true, true, false, false, false, false, false] rfl rfl (any_of HT_.out (by kernel_rfl)) (fun _ _ _ h => h) (Or.inr ⟨by rfl, rfl⟩) ?_ ?_
    rotate_left
    · simp only [Act.put, List.setIfInBounds_toArray, List.set_cons_zero, List.set_cons_succ, i64_w, i32_w]
      rfl
    refine pure_ (i := 10) (N := some 13) (v := undef) (a' := ?_) #[true, true, true, true, true, true, true, true, true, true, true, false, false, false, false] rfl rfl (any_of HT_.out (by kernel_rfl)) (fun _ _ _ h => h) (Or.inr ⟨by rfl, rfl⟩) ?_ ?_
    rotate_left
    · simp only [Act.put, List.setIfInBounds_toArray, List.set_cons_zero, List.set_cons_succ, i64_w, i32_w]
      rfl
    refine pure_ (i := 11) (N := some 14) (v := undef) (a' := ?_) #[true, true, true, true, true, true, true, true, true, true, true, true, false, false, false] rfl rfl (any_of HT_.out (by kernel_rfl)) (fun _ _ _ h => h) (Or.inr ⟨by rfl, rfl⟩) ?_ ?_
    rotate_left
    · simp only [Act.put, List.setIfInBounds_toArray, List.set_cons_zero, List.set_cons_succ, i64_w, i32_w]
      rfl
    refine pure_ (i := 12) (N := some 15) (v := undef) (a' := ?_) #[true, true, true, true, true, true, true, true, true, true, true, true, true, false, false] rfl rfl (any_of HT_.out (by kernel_rfl)) (fun _ _ _ h => h) (Or.inr ⟨by rfl, rfl⟩) ?_ ?_
    rotate_left
    · simp only [Act.put, List.setIfInBounds_toArray, List.set_cons_zero, List.set_cons_succ, i64_w, i32_w]
      rfl
    refine pure_ (i := 13) (N := some 16) (v := ?_) (a' := ?_) #[true, true, true, true, true, true, true, true, true, true, true, true, true, true, false] rfl rfl (any_of HT_.out (by kernel_rfl)) (fun _ _ _ h => h) (Or.inl ⟨by rfl, ?_⟩) ?_ ?_
    rotate_left
    · intro w'
      go_simp
      with_reducible rfl
    rotate_left
    · simp only [Act.put, List.setIfInBounds_toArray, List.set_cons_zero, List.set_cons_succ, i64_w, i32_w]
      rfl
    refine pure_ (i := 14) (N := some 0) (v := ?_) (a' := ?_) #[true, true, true, true, true, true, true, true, true, true, true, true, true, true, true] rfl rfl (any_of HT_.out (by kernel_rfl)) (fun _ _ _ h => h) (Or.inl ⟨by rfl, ?_⟩) ?_ ?_
    rotate_left
    · intro w'
      go_simp
      with_reducible rfl
    rotate_left
    · simp only [Act.put, List.setIfInBounds_toArray, List.set_cons_zero, List.set_cons_succ, i64_w, i32_w]
      rfl
    refine done_ (done_of HT_.out (by kernel_rfl)) ?_
    try go_wp2
    go_ret
    exact ⟨by first | rfl | (simp [errW_none, errW_some] <;> rfl) | (simp [*, errW_none, errW_some] <;> rfl), by repeat (first | (with_reducible first | exact HB.out | apply below_alloc | apply pw_below_drewN | apply below_drew1 | refine below_set ?_ GE107.out) | exact HB.out)⟩

/-! ### plaitinglaw15_within: function 11 -/
def plaitinglaw15_within.f (a0 : Int) (a1 : Int) : Option (Int) := if a1 = 0 then (none) else (if (Int.tmod a0 a1) < 0 then (some (wrap64 ((Int.tmod a0 a1) + a1))) else (some (Int.tmod a0 a1)))
set_option maxHeartbeats 8000000 in
set_option maxRecDepth 100000 in
theorem plaitinglaw15_within.calls (a0 : Int) (a1 : Int) (r : Int) (w : World) (h : plaitinglaw15_within.f a0 a1 = some r) :
    Calls Try.prog 11 #[.int .i64 a0, .int .i64 a1] w fun e w' => e = .returned (.int .i64 r) ∧ Drawn0 w w' := by
  have H : (if a1 = 0 then (none) else (if (Int.tmod a0 a1) < 0 then (some (wrap64 ((Int.tmod a0 a1) + a1))) else (some (Int.tmod a0 a1)))) = some r := h
  clear h
  by_cases c3 : a1 = 0
  · rw [if_pos c3] at H
    exact absurd H (by simp)
  · rw [if_neg c3] at H
    have c3b0 : (a1 == 0) = false := beq_eq_false_iff_ne.mpr c3
    have c3b1 : (a1 != 0) = true := bne_iff_ne.mpr c3
    by_cases c4 : (Int.tmod a0 a1) < 0
    · rw [if_pos c4] at H
      have c4b0 : decide ((Int.tmod a0 a1) < 0) = true := decide_eq_true c4
      clear c4
      obtain rfl := Option.some.inj H
      go_enter Try.func11, Try.ntmps11
      go_wp2
      go_ret
      exact ⟨by first | rfl | (simp; done) | (simp [*]; done), by repeat (first | exact Drawn0.refl _ | apply Drawn0.step)⟩
    · rw [if_neg c4] at H
      have c4b0 : decide ((Int.tmod a0 a1) < 0) = false := decide_eq_false c4
      clear c4
      obtain rfl := Option.some.inj H
      go_enter Try.func11, Try.ntmps11
      go_wp2
      go_ret
      exact ⟨by first | rfl | (simp; done) | (simp [*]; done), by repeat (first | exact Drawn0.refl _ | apply Drawn0.step)⟩

/-! ### plaitinglaw15_cast: function 14 -/
def plaitinglaw15_cast.f (a0_0 : Int) (a0_1 : Int) : Option (Bool × Int × Int) := some (true, a0_0, a0_1)
set_option maxHeartbeats 8000000 in
set_option maxRecDepth 100000 in
theorem plaitinglaw15_cast.calls (a0_0 : Int) (a0_1 : Int) (r1 : Bool) (r2 : Int) (r3 : Int) (w : World) (h : plaitinglaw15_cast.f a0_0 a0_1 = some (r1, r2, r3)) :
    Calls Try.prog 14 #[.agg #[.int .i64 a0_0, .int .i64 a0_1]] w fun e w' => e = .returned (.agg #[.bool r1, .int .i64 r2, .int .i64 r3]) ∧ Below w.heap.size w w' := by
  have hu29 := Try.underlying29
  have hu31 := Try.underlying31
  have HB := Aside0.mk (Below.refl w.heap.size w)
  have H : (some (true, a0_0, a0_1)) = some (r1, r2, r3) := h
  clear h
  simp only [Option.some.injEq, Prod.mk.injEq] at H
  obtain ⟨rfl, rfl, rfl⟩ := H
  go_enter Try.func14, Try.ntmps14
  go_wp2_with (first | ((with_reducible refine gate_dst (N := 1) rfl ?_); refine box_event ?hg (N := 1) ?hd (cs := #[.int .i64 a0_0, .int .i64 a0_1]) (t := 29) ?hr ?_; (case hd => rfl); (case hg => rfl); (case hr => first | (go_simp; done) | (go_simp; rfl)); intro gb115 hg w2 hbox hb; have n0_ := Aside0.mk (below_step (by repeat (first | (with_reducible first | exact HB.out | apply below_alloc | apply pw_below_drewN | apply below_drew1) | exact HB.out)) hb); have n1_ := Aside0.mk (hbox); have n2_ := Aside0.mk ((by rw [hg]; exact (below_size (by repeat (first | (with_reducible first | exact HB.out | apply below_alloc | apply pw_below_drewN | apply below_drew1) | exact HB.out))) : w.heap.size ≤ gb115)); have n3_ := Aside0.mk ((by rw [hg]; exact (below_size (by repeat (first | (with_reducible first | exact HB.out | apply below_alloc | apply pw_below_drewN | apply below_drew1) | exact HB.out))) : w.heap.size ≤ gb115)); clear HB; have HB := n0_; have BK115 := n1_; have GW115 := n2_; have GE115 := n3_; clear n0_ n1_ n2_ n3_; clear hb hbox hg) | ((with_reducible refine gate_dst (N := 2) rfl ?_); refine box_event ?hg (N := 2) ?hd (cs := #[.bool false, .int .i64 0, .int .i64 0]) (t := 31) ?hr ?_; (case hd => rfl); (case hg => rfl); (case hr => first | (go_simp; done) | (go_simp; rfl)); intro gb116 hg w3 hbox hb; have n0_ := Aside0.mk (blk_below (g := gb115) (o := .cells #[.int .i64 a0_0, .int .i64 a0_1] 29 (0, 0)) (by (with_reducible repeat (first | refine blk_drewN ?_ _ | refine blk_drew ?_ | refine blk_alloc ?_ _)); exact BK115.out) hb); have n1_ := Aside0.mk (below_step (by repeat (first | (with_reducible first | exact HB.out | apply below_alloc | apply pw_below_drewN | apply below_drew1 | refine below_set ?_ GE115.out) | exact HB.out)) hb); have n2_ := Aside0.mk (hbox); have n3_ := Aside0.mk ((by rw [hg]; exact (below_size (by repeat (first | (with_reducible first | exact HB.out | apply below_alloc | apply pw_below_drewN | apply below_drew1 | refine below_set ?_ GE115.out) | exact HB.out))) : w.heap.size ≤ gb116)); have n4_ := Aside0.mk ((by rw [hg]; exact (below_size (by repeat (first | (with_reducible first | exact HB.out | apply below_alloc | apply pw_below_drewN | apply below_drew1 | refine below_set ?_ GE115.out) | exact HB.out))) : w.heap.size ≤ gb116)); have n5_ := Aside0.mk ((by rw [hg]; exact Nat.ne_of_lt (blk_lt (g := gb115) (o := .cells #[.int .i64 a0_0, .int .i64 a0_1] 29 (0, 0)) (by (with_reducible repeat (first | refine blk_drewN ?_ _ | refine blk_drew ?_ | refine blk_alloc ?_ _)); exact BK115.out)) : gb115 ≠ gb116)); have n6_ := Aside0.mk ((by rw [hg]; exact Nat.ne_of_gt (blk_lt (g := gb115) (o := .cells #[.int .i64 a0_0, .int .i64 a0_1] 29 (0, 0)) (by (with_reducible repeat (first | refine blk_drewN ?_ _ | refine blk_drew ?_ | refine blk_alloc ?_ _)); exact BK115.out)) : gb116 ≠ gb115)); clear BK115; clear HB; have BK115 := n0_; have HB := n1_; have BK116 := n2_; have GW116 := n3_; have GE116 := n4_; have NB115_116 := n5_; have NB116_115 := n6_; clear n0_ n1_ n2_ n3_ n4_ n5_ n6_; clear hb hbox hg; have hnb4 := NB115_116.out; have hnc4 := NB116_115.out; have hcz5_0 : w3.cell? ⟨gb115, 0, none⟩ = some (.int .i64 a0_0) := (blk_cell BK115.out 0).trans rfl; have hcz5_1 : w3.cell? ⟨gb115, 1, none⟩ = some (.int .i64 a0_1) := (blk_cell BK115.out 1).trans rfl; have hfz5_0 := blk_frozen BK115.out 0; have hfz5_1 := blk_frozen BK115.out 1; have hcz6_0 : w3.cell? ⟨gb116, 0, none⟩ = some (.bool false) := (blk_cell BK116.out 0).trans rfl; have hcz6_1 : w3.cell? ⟨gb116, 1, none⟩ = some (.int .i64 0) := (blk_cell BK116.out 1).trans rfl; have hcz6_2 : w3.cell? ⟨gb116, 2, none⟩ = some (.int .i64 0) := (blk_cell BK116.out 2).trans rfl; have hfz6_0 := blk_frozen BK116.out 0; have hfz6_1 := blk_frozen BK116.out 1; have hfz6_2 := blk_frozen BK116.out 2))
  refine bodyPost_ret (results_cell_row rfl _ _ gb116 31 #[.bool true, .int .i64 a0_0, .int .i64 a0_1] (0, 0) _ rfl (by (with_reducible repeat (first | refine blk_drewN ?_ _ | refine blk_drew ?_ | refine blk_alloc ?_ _)); refine blk_put (cs := #[.bool true, .int .i64 a0_0, .int .i64 0]) ?_ 2 _ rfl; (with_reducible repeat (first | refine blk_drewN ?_ _ | refine blk_drew ?_ | refine blk_alloc ?_ _)); refine blk_put (cs := #[.bool true, .int .i64 0, .int .i64 0]) ?_ 1 _ rfl; (with_reducible repeat (first | refine blk_drewN ?_ _ | refine blk_drew ?_ | refine blk_alloc ?_ _)); refine blk_put (cs := #[.bool false, .int .i64 0, .int .i64 0]) ?_ 0 _ rfl; (with_reducible repeat (first | refine blk_drewN ?_ _ | refine blk_drew ?_ | refine blk_alloc ?_ _)); exact BK116.out) Try.underlying31 rfl (by kernel_rfl)) rfl ?_
  exact ⟨by first | rfl | (simp [errW_none, errW_some] <;> rfl) | (simp [*, errW_none, errW_some] <;> rfl), by repeat (first | (with_reducible first | exact HB.out | apply below_alloc | apply pw_below_drewN | apply below_drew1 | refine below_set ?_ GE115.out | refine below_set ?_ GE116.out) | exact HB.out)⟩

end Go.Proofs.Ytghdfppllknabaa.PVoteKnown
