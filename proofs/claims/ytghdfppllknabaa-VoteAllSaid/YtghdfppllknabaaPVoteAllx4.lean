/- Functions that the claim reaches, each as a plain Lean function with a proof that the Go call comes to what it answers, written by the printer of the kit for this claim over stand-in bodies whose own contracts are proved by hand. Conditions: the readings stated in each theorem. -/
import Derived.Test.YtghdfppllknabaaPVoteAllx0
import Derived.Test.YtghdfppllknabaaPVoteAllx1
import Derived.Test.YtghdfppllknabaaPVoteAllx2
import Derived.Test.YtghdfppllknabaaPVoteAllx3
namespace Go.Proofs.Ytghdfppllknabaa.PVoteAll
open Go.RowKit Go.Proofs.YtghdfppllknabaaW.PrintWords Go.Proofs.YtghdfppllknabaaW.PrintLast Go.Proofs.YtghdfppllknabaaW.PrintMore
attribute [local go_sem] max2_int min2_int max_two min_two max_three min_three max_four min_four   -- for this text's walks alone
set_option linter.unusedVariables false
set_option linter.unusedSimpArgs false

attribute [local go_sem high] eqA29
/-! ### plaitingref15_Most: function 13 -/
mutual
def plaitingref15_Most.l0 : Nat → List (S44) → Int → Option (Int × Int)
  | 0, _, _ => none
  | k + 1, x0, x3 => if x3 < (x0.length : Int) then (plaitingref15_Most.l1 k x0 x3 0 0) else (some (0, 0))
def plaitingref15_Most.l1 : Nat → List (S44) → Int → Int → Int → Option (Int × Int)
  | 0, _, _, _, _ => none
  | k + 1, x0, x3, x4, x5 => if x5 < (x0.length : Int) then (if 0 ≤ x5 then (if (rd_T44 x0 x5).f0 = true then (if 0 ≤ x3 then (if x3 < (x0.length : Int) then (if (((rd_T44 x0 x5).f1.f0) == ((rd_T44 x0 x3).f1.f0) && (((rd_T44 x0 x5).f1.f1) == ((rd_T44 x0 x3).f1.f1))) = true then (plaitingref15_Most.l1 k x0 x3 (wrap64 (x4 + 1)) (wrap64 (x5 + 1))) else (plaitingref15_Most.l1 k x0 x3 x4 (wrap64 (x5 + 1)))) else (none)) else (none)) else (plaitingref15_Most.l1 k x0 x3 x4 (wrap64 (x5 + 1)))) else (none)) else (if 0 ≤ x3 then (if x3 < (x0.length : Int) then (if (rd_T44 x0 x3).f0 = true then (if (wrap64 (2 * x4)) > (x0.length : Int) then (some ((rd_T44 x0 x3).f1.f0, (rd_T44 x0 x3).f1.f1)) else (plaitingref15_Most.l0 k x0 (wrap64 (x3 + 1)))) else (plaitingref15_Most.l0 k x0 (wrap64 (x3 + 1)))) else (none)) else (none))
end
def plaitingref15_Most.f (k : Nat) (l0 : List (S44)) : Option (Int × Int) := plaitingref15_Most.l0 k l0 0
theorem plaitingref15_Most.mono_l : ∀ k, (∀ y0 y1, LeO (plaitingref15_Most.l0 k y0 y1) (plaitingref15_Most.l0 (k + 1) y0 y1)) ∧ (∀ y0 y1 y2 y3, LeO (plaitingref15_Most.l1 k y0 y1 y2 y3) (plaitingref15_Most.l1 (k + 1) y0 y1 y2 y3))
  | 0 => ⟨fun _ _ r h => by simp [plaitingref15_Most.l0] at h, fun _ _ _ _ r h => by simp [plaitingref15_Most.l1] at h⟩
  | k + 1 => by
    obtain ⟨ih0, ih1⟩ := plaitingref15_Most.mono_l k
    refine ⟨?_, ?_⟩
    · intro y0 y1
      unfold plaitingref15_Most.l0
      repeat' first
      | (with_reducible exact ih0 _ _)
      | (with_reducible exact ih1 _ _ _ _)
      | (with_reducible exact LeO.refl _)
      | (with_reducible exact LeO.none _)
      | (with_reducible refine LeO.ite ?_ ?_)
      | (with_reducible refine LeO.bind ?_ (fun _ => ?_))
      | exact ih0 _ _
      | exact ih1 _ _ _ _
      | exact LeO.none _
      | refine LeO.ite ?_ ?_
      | refine LeO.bind ?_ (fun _ => ?_)
    · intro y0 y1 y2 y3
      unfold plaitingref15_Most.l1
      repeat' first
      | (with_reducible exact ih0 _ _)
      | (with_reducible exact ih1 _ _ _ _)
      | (with_reducible exact LeO.refl _)
      | (with_reducible exact LeO.none _)
      | (with_reducible refine LeO.ite ?_ ?_)
      | (with_reducible refine LeO.bind ?_ (fun _ => ?_))
      | exact ih0 _ _
      | exact ih1 _ _ _ _
      | exact LeO.none _
      | refine LeO.ite ?_ ?_
      | refine LeO.bind ?_ (fun _ => ?_)
theorem plaitingref15_Most.mono : ∀ a0 k, LeO (plaitingref15_Most.f k a0) (plaitingref15_Most.f (k + 1) a0) := by
  intro a0 k
  obtain ⟨ih0, ih1⟩ := plaitingref15_Most.mono_l k
  unfold plaitingref15_Most.f
  repeat' first
      | (with_reducible exact ih0 _ _)
      | (with_reducible exact ih1 _ _ _ _)
      | (with_reducible exact LeO.refl _)
      | (with_reducible exact LeO.none _)
      | (with_reducible refine LeO.ite ?_ ?_)
      | (with_reducible refine LeO.bind ?_ (fun _ => ?_))
      | exact ih0 _ _
      | exact ih1 _ _ _ _
      | exact LeO.none _
      | refine LeO.ite ?_ ?_
      | refine LeO.bind ?_ (fun _ => ?_)
set_option maxHeartbeats 8000000 in
set_option maxRecDepth 100000 in
theorem plaitingref15_Most.calls (k : Nat) (A0 : Option Addr) (c0 : Nat) (l0 : List (S44)) (r1 : Int) (r2 : Int) (w : World) (hr0 : Kd.C k44 w A0 l0.length l0) (hc0 : l0.length ≤ c0) (h : plaitingref15_Most.f k l0 = some (r1, r2)) :
    Calls Try.prog 13 #[.slice A0 l0.length c0] w fun e w' => e = .returned (.agg #[.int .i64 r1, .int .i64 r2]) ∧ Below w.heap.size w w' := by
  have hu29 := Try.underlying29
  have HR0 := Aside0.mk hr0
  have HC0 := Aside0.mk hc0
  clear hr0 hc0
  have HB := Aside0.mk (Below.refl w.heap.size w)
  have H : (plaitingref15_Most.l0 k l0 0) = some (r1, r2) := h
  clear h
  have H' := Aside0.mk H
  clear H
  go_enter Try.func13, Try.ntmps13
  go_wp2_with (first | ((with_reducible refine gate_dst (N := 2) rfl ?_); (try (refine gate_guard (by rfl) ?_; dsimp only)); refine box_event ?hg (N := 2) ?hd (cs := #[.int .i64 0, .int .i64 0]) (t := 29) ?hr ?_; (case hd => rfl); (case hg => rfl); (case hr => first | (go_simp; done) | (go_simp; rfl)); intro gb148 hg w2 hbox hb; have n0_ := Aside0.mk (below_step (by repeat (first | (with_reducible first | exact HB.out | apply below_alloc | apply pw_below_drewN | apply below_drew1) | exact HB.out)) hb); have n1_ := Aside0.mk (hbox); have n2_ := Aside0.mk ((by rw [hg]; exact (below_size (by repeat (first | (with_reducible first | exact HB.out | apply below_alloc | apply pw_below_drewN | apply below_drew1) | exact HB.out))) : w.heap.size ≤ gb148)); have n3_ := Aside0.mk ((by rw [hg]; exact (below_size (by repeat (first | (with_reducible first | exact HB.out | apply below_alloc | apply pw_below_drewN | apply below_drew1) | exact HB.out))) : w.heap.size ≤ gb148)); clear HB; have HB := n0_; have BK148 := n1_; have GW148 := n2_; have GE148 := n3_; clear n0_ n1_ n2_ n3_; clear hb hbox hg))
  repeat (go_quiet (first | ((with_reducible refine gate_dst (N := 2) rfl ?_); (try (refine gate_guard (by rfl) ?_; dsimp only)); refine box_event ?hg (N := 2) ?hd (cs := #[.int .i64 0, .int .i64 0]) (t := 29) ?hr ?_; (case hd => rfl); (case hg => rfl); (case hr => first | (go_simp; done) | (go_simp; rfl)); intro gb148 hg w2 hbox hb; have n0_ := Aside0.mk (below_step (by repeat (first | (with_reducible first | exact HB.out | apply below_alloc | apply pw_below_drewN | apply below_drew1) | exact HB.out)) hb); have n1_ := Aside0.mk (hbox); have n2_ := Aside0.mk ((by rw [hg]; exact (below_size (by repeat (first | (with_reducible first | exact HB.out | apply below_alloc | apply pw_below_drewN | apply below_drew1) | exact HB.out))) : w.heap.size ≤ gb148)); have n3_ := Aside0.mk ((by rw [hg]; exact (below_size (by repeat (first | (with_reducible first | exact HB.out | apply below_alloc | apply pw_below_drewN | apply below_drew1) | exact HB.out))) : w.heap.size ≤ gb148)); clear HB; have HB := n0_; have BK148 := n1_; have GW148 := n2_; have GE148 := n3_; clear n0_ n1_ n2_ n3_; clear hb hbox hg)); try go_wp2_with (first | ((with_reducible refine gate_dst (N := 2) rfl ?_); (try (refine gate_guard (by rfl) ?_; dsimp only)); refine box_event ?hg (N := 2) ?hd (cs := #[.int .i64 0, .int .i64 0]) (t := 29) ?hr ?_; (case hd => rfl); (case hg => rfl); (case hr => first | (go_simp; done) | (go_simp; rfl)); intro gb148 hg w2 hbox hb; have n0_ := Aside0.mk (below_step (by repeat (first | (with_reducible first | exact HB.out | apply below_alloc | apply pw_below_drewN | apply below_drew1) | exact HB.out)) hb); have n1_ := Aside0.mk (hbox); have n2_ := Aside0.mk ((by rw [hg]; exact (below_size (by repeat (first | (with_reducible first | exact HB.out | apply below_alloc | apply pw_below_drewN | apply below_drew1) | exact HB.out))) : w.heap.size ≤ gb148)); have n3_ := Aside0.mk ((by rw [hg]; exact (below_size (by repeat (first | (with_reducible first | exact HB.out | apply below_alloc | apply pw_below_drewN | apply below_drew1) | exact HB.out))) : w.heap.size ≤ gb148)); clear HB; have HB := n0_; have BK148 := n1_; have GW148 := n2_; have GE148 := n3_; clear n0_ n1_ n2_ n3_; clear hb hbox hg)))
  go_loopg [3] k (fun kq v3 w' => ∃ (x3_1 : Int) (x149000_1 : Int) (x149001_1 : Int), v3 = .int .i64 x3_1 ∧ Aside0 (plaitingref15_Most.l0 kq l0 x3_1 = some (r1, r2)) ∧ Aside0 (kq ≤ k) ∧ Aside0 (w'.heap[gb148]? = some (.cells #[.int .i64 x149000_1, .int .i64 x149001_1] 29 (0, 0))) ∧ Aside0 (Below w.heap.size w w'))
  case atStart => exact ⟨(0), (0), (0), (by first | rfl | (simp; done) | (simp [*]; done)), H', ⟨Nat.le_refl _⟩, ⟨by (with_reducible repeat (first | refine blk_drewN ?_ _ | refine blk_drew ?_ | refine blk_alloc ?_ _)); exact BK148.out⟩, ⟨by repeat (first | (with_reducible first | exact HB.out | apply below_alloc | apply pw_below_drewN | apply below_drew1 | refine below_set ?_ GE148.out) | exact HB.out)⟩⟩
  case round =>
    clear H'
    try clear c1
    try clear p2
    obtain ⟨x3_1, x149000_1, x149001_1, rfl, HA, HK1, BK148, HB⟩ := hrel
    cases gk with
    | zero => exact absurd HA.out (by simp [plaitingref15_Most.l0])
    | succ k1 =>
      have H := HA.out
      clear HA
      simp only [plaitingref15_Most.l0] at H
      by_cases c3 : x3_1 < (l0.length : Int)
      · rw [if_pos c3] at H
        have c3b0 : decide (x3_1 < (l0.length : Int)) = true := decide_eq_true c3
        clear c3
        have H' := Aside0.mk H
        clear H
        go_wp2
        repeat (go_quiet (fail); try go_wp2)
        go_loopg [4, 5] k1 (fun kq v4 v5 w' => ∃ (x4_2 : Int) (x5_2 : Int), v4 = .int .i64 x4_2 ∧ v5 = .int .i64 x5_2 ∧ Aside0 (plaitingref15_Most.l1 kq l0 x3_1 x4_2 x5_2 = some (r1, r2)) ∧ Aside0 (kq ≤ k1) ∧ Aside0 (w'.heap[gb148]? = some (.cells #[.int .i64 x149000_1, .int .i64 x149001_1] 29 (0, 0))) ∧ Aside0 (Below w.heap.size w w'))
        case atStart => exact ⟨(0), (0), (by first | rfl | (simp; done) | (simp [*]; done)), (by first | rfl | (simp; done) | (simp [*]; done)), H', ⟨Nat.le_refl _⟩, ⟨by (with_reducible repeat (first | refine blk_drewN ?_ _ | refine blk_drew ?_ | refine blk_alloc ?_ _)); exact BK148.out⟩, ⟨by repeat (first | (with_reducible first | exact HB.out | apply below_alloc | apply pw_below_drewN | apply below_drew1 | refine below_set ?_ GE148.out) | exact HB.out)⟩⟩
        case round =>
          clear H'
          try clear c1
          try clear p2
          try clear c3
          try clear c3b0
          try clear p2
          obtain ⟨x4_2, x5_2, rfl, rfl, HA, HK2, BK148, HB⟩ := hrel
          cases gk with
          | zero => exact absurd HA.out (by simp [plaitingref15_Most.l1])
          | succ k2 =>
            have H := HA.out
            clear HA
            simp only [plaitingref15_Most.l1] at H
            by_cases c4 : x5_2 < (l0.length : Int)
            · rw [if_pos c4] at H
              have c4b0 : decide (x5_2 < (l0.length : Int)) = true := decide_eq_true c4
              clear c4
              by_cases c5 : 0 ≤ x5_2
              · rw [if_pos c5] at H
                have c5b0 : decide (0 ≤ x5_2) = true := decide_eq_true c5
                clear c5
                obtain ⟨bq6, hbq6⟩ : ∃ b_ : Bool, b_ = ((rd_T44 l0 x5_2).f0) := ⟨_, rfl⟩
                replace H : (if bq6 = true then (if 0 ≤ x3_1 then (if x3_1 < (l0.length : Int) then (if (((rd_T44 l0 x5_2).f1.f0) == ((rd_T44 l0 x3_1).f1.f0) && (((rd_T44 l0 x5_2).f1.f1) == ((rd_T44 l0 x3_1).f1.f1))) = true then (plaitingref15_Most.l1 k2 l0 x3_1 (wrap64 (x4_2 + 1)) (wrap64 (x5_2 + 1))) else (plaitingref15_Most.l1 k2 l0 x3_1 x4_2 (wrap64 (x5_2 + 1)))) else (none)) else (none)) else (plaitingref15_Most.l1 k2 l0 x3_1 x4_2 (wrap64 (x5_2 + 1)))) = some (r1, r2) := by rw [← hbq6] at H; exact H
                have Nbq6 := Aside0.mk hbq6
                clear hbq6
                by_cases c7 : bq6 = true
                · subst c7
                  have H1 : (if 0 ≤ x3_1 then (if x3_1 < (l0.length : Int) then (if (((rd_T44 l0 x5_2).f1.f0) == ((rd_T44 l0 x3_1).f1.f0) && (((rd_T44 l0 x5_2).f1.f1) == ((rd_T44 l0 x3_1).f1.f1))) = true then (plaitingref15_Most.l1 k2 l0 x3_1 (wrap64 (x4_2 + 1)) (wrap64 (x5_2 + 1))) else (plaitingref15_Most.l1 k2 l0 x3_1 x4_2 (wrap64 (x5_2 + 1)))) else (none)) else (none)) = some (r1, r2) := by rw [if_pos rfl] at H; exact H
                  clear H
                  have H := H1
                  clear H1
                  by_cases c8 : 0 ≤ x3_1
                  · rw [if_pos c8] at H
                    have c8b0 : decide (0 ≤ x3_1) = true := decide_eq_true c8
                    clear c8
                    by_cases c9 : x3_1 < (l0.length : Int)
                    · rw [if_pos c9] at H
                      have c9b0 : decide (x3_1 < (l0.length : Int)) = true := decide_eq_true c9
                      clear c9
                      by_cases c10 : (((rd_T44 l0 x5_2).f1.f0) == ((rd_T44 l0 x3_1).f1.f0) && (((rd_T44 l0 x5_2).f1.f1) == ((rd_T44 l0 x3_1).f1.f1))) = true
                      · rw [if_pos c10] at H
                        have c10b0 : (((rd_T44 l0 x5_2).f1.f0) == ((rd_T44 l0 x3_1).f1.f0) && (((rd_T44 l0 x5_2).f1.f1) == ((rd_T44 l0 x3_1).f1.f1))) = true := c10
                        (try (have c10b1 : decide (((rd_T44 l0 x5_2).f1.f0) = ((rd_T44 l0 x3_1).f1.f0) && (((rd_T44 l0 x5_2).f1.f1) == ((rd_T44 l0 x3_1).f1.f1))) = true := by simpa using c10))
                        (try (have c10b2 : (((rd_T44 l0 x5_2).f1.f0) == ((rd_T44 l0 x3_1).f1.f0) && (((rd_T44 l0 x5_2).f1.f1) == ((rd_T44 l0 x3_1).f1.f1))) = true := by simpa using c10))
                        clear c10
                        have H' := Aside0.mk H
                        clear H
                        have p149 : 0 ≤ (x5_2 : Int) := of_decide_eq_true (by first | (with_reducible assumption) | assumption)
                        have q149 : x5_2 < (l0.length : Int) := of_decide_eq_true (by first | (with_reducible assumption) | assumption)
                        obtain ⟨ad149, e149, hx149_0, hx149_1, hx149_2⟩ := at_T44 HR0.out x5_2 p149 q149
                        (try rw [← Nbq6.out] at hx149_0)
                        cases e149
                        replace hx149_0 := (HB.out.cell (World.block_lt_of_cell? w _ hx149_0)).trans hx149_0
                        replace hx149_1 := (HB.out.cell (World.block_lt_of_cell? w _ hx149_1)).trans hx149_1
                        replace hx149_2 := (HB.out.cell (World.block_lt_of_cell? w _ hx149_2)).trans hx149_2
                        replace p149 := eq_true p149
                        replace q149 := eq_true q149
                        have p150 : 0 ≤ (x5_2 : Int) := of_decide_eq_true (by first | (with_reducible assumption) | assumption)
                        have q150 : x5_2 < (l0.length : Int) := of_decide_eq_true (by first | (with_reducible assumption) | assumption)
                        obtain ⟨ad150, e150, hx150_0, hx150_1, hx150_2⟩ := at_T44 HR0.out x5_2 p150 q150
                        (try rw [← Nbq6.out] at hx150_0)
                        obtain rfl : ad149 = ad150 := (by injection e150)
                        replace hx150_0 := (HB.out.cell (World.block_lt_of_cell? w _ hx150_0)).trans hx150_0
                        replace hx150_1 := (HB.out.cell (World.block_lt_of_cell? w _ hx150_1)).trans hx150_1
                        replace hx150_2 := (HB.out.cell (World.block_lt_of_cell? w _ hx150_2)).trans hx150_2
                        replace p150 := eq_true p150
                        replace q150 := eq_true q150
                        have p151 : 0 ≤ (x3_1 : Int) := of_decide_eq_true (by first | (with_reducible assumption) | assumption)
                        have q151 : x3_1 < (l0.length : Int) := of_decide_eq_true (by first | (with_reducible assumption) | assumption)
                        obtain ⟨ad151, e151, hx151_0, hx151_1, hx151_2⟩ := at_T44 HR0.out x3_1 p151 q151
                        (try rw [← Nbq6.out] at hx151_0)
                        obtain rfl : ad149 = ad151 := (by injection e151)
                        replace hx151_0 := (HB.out.cell (World.block_lt_of_cell? w _ hx151_0)).trans hx151_0
                        replace hx151_1 := (HB.out.cell (World.block_lt_of_cell? w _ hx151_1)).trans hx151_1
                        replace hx151_2 := (HB.out.cell (World.block_lt_of_cell? w _ hx151_2)).trans hx151_2
                        replace p151 := eq_true p151
                        replace q151 := eq_true q151
                        go_wp2
                        repeat (go_quiet (fail); try go_wp2)
                        go_roundg k2
                        case measure => have := HK1.out; have := HK2.out; omega
                        case rel => exact ⟨(wrap64 (x4_2 + 1)), (wrap64 (x5_2 + 1)), (by first | rfl | (simp; done) | (simp [*]; done)), (by first | rfl | (simp; done) | (simp [*]; done)), H', ⟨by have := HK1.out; have := HK2.out; omega⟩, ⟨by (with_reducible repeat (first | refine blk_drewN ?_ _ | refine blk_drew ?_ | refine blk_alloc ?_ _)); exact BK148.out⟩, ⟨by repeat (first | (with_reducible first | exact HB.out | apply below_alloc | apply pw_below_drewN | apply below_drew1 | refine below_set ?_ GE148.out) | exact HB.out)⟩⟩
                      · rw [if_neg c10] at H
                        have c10b0 : (((rd_T44 l0 x5_2).f1.f0) == ((rd_T44 l0 x3_1).f1.f0) && (((rd_T44 l0 x5_2).f1.f1) == ((rd_T44 l0 x3_1).f1.f1))) = false := by simpa using c10
                        (try (have c10b1 : decide (((rd_T44 l0 x5_2).f1.f0) = ((rd_T44 l0 x3_1).f1.f0) && (((rd_T44 l0 x5_2).f1.f1) == ((rd_T44 l0 x3_1).f1.f1))) = false := by simpa using c10))
                        (try (have c10b2 : (((rd_T44 l0 x5_2).f1.f0) == ((rd_T44 l0 x3_1).f1.f0) && (((rd_T44 l0 x5_2).f1.f1) == ((rd_T44 l0 x3_1).f1.f1))) = false := by simpa using c10))
                        (try (have c10b3 : ¬ (((rd_T44 l0 x5_2).f1.f0) = ((rd_T44 l0 x3_1).f1.f0) && (((rd_T44 l0 x5_2).f1.f1) == ((rd_T44 l0 x3_1).f1.f1))) := by simpa using c10))
                        clear c10
                        have H' := Aside0.mk H
                        clear H
                        have p149 : 0 ≤ (x5_2 : Int) := of_decide_eq_true (by first | (with_reducible assumption) | assumption)
                        have q149 : x5_2 < (l0.length : Int) := of_decide_eq_true (by first | (with_reducible assumption) | assumption)
                        obtain ⟨ad149, e149, hx149_0, hx149_1, hx149_2⟩ := at_T44 HR0.out x5_2 p149 q149
                        (try rw [← Nbq6.out] at hx149_0)
                        cases e149
                        replace hx149_0 := (HB.out.cell (World.block_lt_of_cell? w _ hx149_0)).trans hx149_0
                        replace hx149_1 := (HB.out.cell (World.block_lt_of_cell? w _ hx149_1)).trans hx149_1
                        replace hx149_2 := (HB.out.cell (World.block_lt_of_cell? w _ hx149_2)).trans hx149_2
                        replace p149 := eq_true p149
                        replace q149 := eq_true q149
                        have p150 : 0 ≤ (x5_2 : Int) := of_decide_eq_true (by first | (with_reducible assumption) | assumption)
                        have q150 : x5_2 < (l0.length : Int) := of_decide_eq_true (by first | (with_reducible assumption) | assumption)
                        obtain ⟨ad150, e150, hx150_0, hx150_1, hx150_2⟩ := at_T44 HR0.out x5_2 p150 q150
                        (try rw [← Nbq6.out] at hx150_0)
                        obtain rfl : ad149 = ad150 := (by injection e150)
                        replace hx150_0 := (HB.out.cell (World.block_lt_of_cell? w _ hx150_0)).trans hx150_0
                        replace hx150_1 := (HB.out.cell (World.block_lt_of_cell? w _ hx150_1)).trans hx150_1
                        replace hx150_2 := (HB.out.cell (World.block_lt_of_cell? w _ hx150_2)).trans hx150_2
                        replace p150 := eq_true p150
                        replace q150 := eq_true q150
                        have p151 : 0 ≤ (x3_1 : Int) := of_decide_eq_true (by first | (with_reducible assumption) | assumption)
                        have q151 : x3_1 < (l0.length : Int) := of_decide_eq_true (by first | (with_reducible assumption) | assumption)
                        obtain ⟨ad151, e151, hx151_0, hx151_1, hx151_2⟩ := at_T44 HR0.out x3_1 p151 q151
                        (try rw [← Nbq6.out] at hx151_0)
                        obtain rfl : ad149 = ad151 := (by injection e151)
                        replace hx151_0 := (HB.out.cell (World.block_lt_of_cell? w _ hx151_0)).trans hx151_0
                        replace hx151_1 := (HB.out.cell (World.block_lt_of_cell? w _ hx151_1)).trans hx151_1
                        replace hx151_2 := (HB.out.cell (World.block_lt_of_cell? w _ hx151_2)).trans hx151_2
                        replace p151 := eq_true p151
                        replace q151 := eq_true q151
                        go_wp2
                        repeat (go_quiet (fail); try go_wp2)
                        go_roundg k2
                        case measure => have := HK1.out; have := HK2.out; omega
                        case rel => exact ⟨(x4_2), (wrap64 (x5_2 + 1)), (by first | rfl | (simp; done) | (simp [*]; done)), (by first | rfl | (simp; done) | (simp [*]; done)), H', ⟨by have := HK1.out; have := HK2.out; omega⟩, ⟨by (with_reducible repeat (first | refine blk_drewN ?_ _ | refine blk_drew ?_ | refine blk_alloc ?_ _)); exact BK148.out⟩, ⟨by repeat (first | (with_reducible first | exact HB.out | apply below_alloc | apply pw_below_drewN | apply below_drew1 | refine below_set ?_ GE148.out) | exact HB.out)⟩⟩
                    · rw [if_neg c9] at H
                      exact absurd H (by simp)
                  · rw [if_neg c8] at H
                    exact absurd H (by simp)
                · replace c7 := Bool.eq_false_iff.mpr c7
                  subst c7
                  have H1 : (plaitingref15_Most.l1 k2 l0 x3_1 x4_2 (wrap64 (x5_2 + 1))) = some (r1, r2) := by rw [if_neg (show ¬ (false = true) by decide)] at H; exact H
                  clear H
                  have H := H1
                  clear H1
                  have H' := Aside0.mk H
                  clear H
                  have p149 : 0 ≤ (x5_2 : Int) := of_decide_eq_true (by first | (with_reducible assumption) | assumption)
                  have q149 : x5_2 < (l0.length : Int) := of_decide_eq_true (by first | (with_reducible assumption) | assumption)
                  obtain ⟨ad149, e149, hx149_0, hx149_1, hx149_2⟩ := at_T44 HR0.out x5_2 p149 q149
                  (try rw [← Nbq6.out] at hx149_0)
                  cases e149
                  replace hx149_0 := (HB.out.cell (World.block_lt_of_cell? w _ hx149_0)).trans hx149_0
                  replace hx149_1 := (HB.out.cell (World.block_lt_of_cell? w _ hx149_1)).trans hx149_1
                  replace hx149_2 := (HB.out.cell (World.block_lt_of_cell? w _ hx149_2)).trans hx149_2
                  replace p149 := eq_true p149
                  replace q149 := eq_true q149
                  go_wp2
                  repeat (go_quiet (fail); try go_wp2)
                  go_roundg k2
                  case measure => have := HK1.out; have := HK2.out; omega
                  case rel => exact ⟨(x4_2), (wrap64 (x5_2 + 1)), (by first | rfl | (simp; done) | (simp [*]; done)), (by first | rfl | (simp; done) | (simp [*]; done)), H', ⟨by have := HK1.out; have := HK2.out; omega⟩, ⟨by (with_reducible repeat (first | refine blk_drewN ?_ _ | refine blk_drew ?_ | refine blk_alloc ?_ _)); exact BK148.out⟩, ⟨by repeat (first | (with_reducible first | exact HB.out | apply below_alloc | apply pw_below_drewN | apply below_drew1 | refine below_set ?_ GE148.out) | exact HB.out)⟩⟩
              · rw [if_neg c5] at H
                exact absurd H (by simp)
            · rw [if_neg c4] at H
              have c4b0 : decide (x5_2 < (l0.length : Int)) = false := decide_eq_false c4
              clear c4
              by_cases c11 : 0 ≤ x3_1
              · rw [if_pos c11] at H
                have c11b0 : decide (0 ≤ x3_1) = true := decide_eq_true c11
                clear c11
                by_cases c12 : x3_1 < (l0.length : Int)
                · rw [if_pos c12] at H
                  have c12b0 : decide (x3_1 < (l0.length : Int)) = true := decide_eq_true c12
                  clear c12
                  obtain ⟨bq13, hbq13⟩ : ∃ b_ : Bool, b_ = ((rd_T44 l0 x3_1).f0) := ⟨_, rfl⟩
                  replace H : (if bq13 = true then (if (wrap64 (2 * x4_2)) > (l0.length : Int) then (some ((rd_T44 l0 x3_1).f1.f0, (rd_T44 l0 x3_1).f1.f1)) else (plaitingref15_Most.l0 k2 l0 (wrap64 (x3_1 + 1)))) else (plaitingref15_Most.l0 k2 l0 (wrap64 (x3_1 + 1)))) = some (r1, r2) := by rw [← hbq13] at H; exact H
                  have Nbq13 := Aside0.mk hbq13
                  clear hbq13
                  by_cases c14 : bq13 = true
                  · subst c14
                    have H1 : (if (wrap64 (2 * x4_2)) > (l0.length : Int) then (some ((rd_T44 l0 x3_1).f1.f0, (rd_T44 l0 x3_1).f1.f1)) else (plaitingref15_Most.l0 k2 l0 (wrap64 (x3_1 + 1)))) = some (r1, r2) := by rw [if_pos rfl] at H; exact H
                    clear H
                    have H := H1
                    clear H1
                    by_cases c15 : (wrap64 (2 * x4_2)) > (l0.length : Int)
                    · rw [if_pos c15] at H
                      have c15b0 : decide ((l0.length : Int) < (wrap64 (2 * x4_2))) = true := decide_eq_true c15
                      clear c15
                      simp only [Option.some.injEq, Prod.mk.injEq] at H
                      obtain ⟨rfl, rfl⟩ := H
                      have p152 : 0 ≤ (x3_1 : Int) := of_decide_eq_true (by first | (with_reducible assumption) | assumption)
                      have q152 : x3_1 < (l0.length : Int) := of_decide_eq_true (by first | (with_reducible assumption) | assumption)
                      obtain ⟨ad152, e152, hx152_0, hx152_1, hx152_2⟩ := at_T44 HR0.out x3_1 p152 q152
                      (try rw [← Nbq13.out] at hx152_0)
                      cases e152
                      replace hx152_0 := (HB.out.cell (World.block_lt_of_cell? w _ hx152_0)).trans hx152_0
                      replace hx152_1 := (HB.out.cell (World.block_lt_of_cell? w _ hx152_1)).trans hx152_1
                      replace hx152_2 := (HB.out.cell (World.block_lt_of_cell? w _ hx152_2)).trans hx152_2
                      replace p152 := eq_true p152
                      replace q152 := eq_true q152
                      have p153 : 0 ≤ (x3_1 : Int) := of_decide_eq_true (by first | (with_reducible assumption) | assumption)
                      have q153 : x3_1 < (l0.length : Int) := of_decide_eq_true (by first | (with_reducible assumption) | assumption)
                      obtain ⟨ad153, e153, hx153_0, hx153_1, hx153_2⟩ := at_T44 HR0.out x3_1 p153 q153
                      (try rw [← Nbq13.out] at hx153_0)
                      obtain rfl : ad152 = ad153 := (by injection e153)
                      replace hx153_0 := (HB.out.cell (World.block_lt_of_cell? w _ hx153_0)).trans hx153_0
                      replace hx153_1 := (HB.out.cell (World.block_lt_of_cell? w _ hx153_1)).trans hx153_1
                      replace hx153_2 := (HB.out.cell (World.block_lt_of_cell? w _ hx153_2)).trans hx153_2
                      replace p153 := eq_true p153
                      replace q153 := eq_true q153
                      have hcz16_0 : wr.cell? ⟨gb148, 0, none⟩ = some (.int .i64 x149000_1) := (blk_cell BK148.out 0).trans rfl
                      have hcz16_1 : wr.cell? ⟨gb148, 1, none⟩ = some (.int .i64 x149001_1) := (blk_cell BK148.out 1).trans rfl
                      have hfz16_0 := blk_frozen BK148.out 0
                      have hfz16_1 := blk_frozen BK148.out 1
                      go_wp2
                      repeat (go_quiet (fail); try go_wp2)
                      refine bodyPost_ret (results_cell_row rfl _ _ gb148 29 #[.int .i64 ((rd_T44 l0 x3_1).f1.f0), .int .i64 ((rd_T44 l0 x3_1).f1.f1)] (0, 0) _ rfl (by (with_reducible repeat (first | refine blk_drewN ?_ _ | refine blk_drew ?_ | refine blk_alloc ?_ _)); refine blk_put (cs := #[.int .i64 ((rd_T44 l0 x3_1).f1.f0), .int .i64 x149001_1]) ?_ 1 _ rfl; (with_reducible repeat (first | refine blk_drewN ?_ _ | refine blk_drew ?_ | refine blk_alloc ?_ _)); refine blk_put (cs := #[.int .i64 x149000_1, .int .i64 x149001_1]) ?_ 0 _ rfl; (with_reducible repeat (first | refine blk_drewN ?_ _ | refine blk_drew ?_ | refine blk_alloc ?_ _)); exact BK148.out) Try.underlying29 rfl (by kernel_rfl)) rfl ?_
                      exact ⟨by first | rfl | (simp [errW_none, errW_some] <;> rfl) | (simp [*, errW_none, errW_some] <;> rfl), by repeat (first | (with_reducible first | exact HB.out | apply below_alloc | apply pw_below_drewN | apply below_drew1 | refine below_set ?_ GE148.out) | exact HB.out)⟩
                    · rw [if_neg c15] at H
                      have c15b0 : decide ((l0.length : Int) < (wrap64 (2 * x4_2))) = false := decide_eq_false c15
                      clear c15
                      have H' := Aside0.mk H
                      clear H
                      have p152 : 0 ≤ (x3_1 : Int) := of_decide_eq_true (by first | (with_reducible assumption) | assumption)
                      have q152 : x3_1 < (l0.length : Int) := of_decide_eq_true (by first | (with_reducible assumption) | assumption)
                      obtain ⟨ad152, e152, hx152_0, hx152_1, hx152_2⟩ := at_T44 HR0.out x3_1 p152 q152
                      (try rw [← Nbq13.out] at hx152_0)
                      cases e152
                      replace hx152_0 := (HB.out.cell (World.block_lt_of_cell? w _ hx152_0)).trans hx152_0
                      replace hx152_1 := (HB.out.cell (World.block_lt_of_cell? w _ hx152_1)).trans hx152_1
                      replace hx152_2 := (HB.out.cell (World.block_lt_of_cell? w _ hx152_2)).trans hx152_2
                      replace p152 := eq_true p152
                      replace q152 := eq_true q152
                      go_wp2
                      repeat (go_quiet (fail); try go_wp2)
                      go_roundg k2
                      case measure => have := HK1.out; have := HK2.out; omega
                      case rel => exact ⟨(wrap64 (x3_1 + 1)), (x149000_1), (x149001_1), (by first | rfl | (simp; done) | (simp [*]; done)), H', ⟨by have := HK1.out; have := HK2.out; omega⟩, ⟨by (with_reducible repeat (first | refine blk_drewN ?_ _ | refine blk_drew ?_ | refine blk_alloc ?_ _)); exact BK148.out⟩, ⟨by repeat (first | (with_reducible first | exact HB.out | apply below_alloc | apply pw_below_drewN | apply below_drew1 | refine below_set ?_ GE148.out) | exact HB.out)⟩⟩
                  · replace c14 := Bool.eq_false_iff.mpr c14
                    subst c14
                    have H1 : (plaitingref15_Most.l0 k2 l0 (wrap64 (x3_1 + 1))) = some (r1, r2) := by rw [if_neg (show ¬ (false = true) by decide)] at H; exact H
                    clear H
                    have H := H1
                    clear H1
                    have H' := Aside0.mk H
                    clear H
                    have p152 : 0 ≤ (x3_1 : Int) := of_decide_eq_true (by first | (with_reducible assumption) | assumption)
                    have q152 : x3_1 < (l0.length : Int) := of_decide_eq_true (by first | (with_reducible assumption) | assumption)
                    obtain ⟨ad152, e152, hx152_0, hx152_1, hx152_2⟩ := at_T44 HR0.out x3_1 p152 q152
                    (try rw [← Nbq13.out] at hx152_0)
                    cases e152
                    replace hx152_0 := (HB.out.cell (World.block_lt_of_cell? w _ hx152_0)).trans hx152_0
                    replace hx152_1 := (HB.out.cell (World.block_lt_of_cell? w _ hx152_1)).trans hx152_1
                    replace hx152_2 := (HB.out.cell (World.block_lt_of_cell? w _ hx152_2)).trans hx152_2
                    replace p152 := eq_true p152
                    replace q152 := eq_true q152
                    go_wp2
                    repeat (go_quiet (fail); try go_wp2)
                    go_roundg k2
                    case measure => have := HK1.out; have := HK2.out; omega
                    case rel => exact ⟨(wrap64 (x3_1 + 1)), (x149000_1), (x149001_1), (by first | rfl | (simp; done) | (simp [*]; done)), H', ⟨by have := HK1.out; have := HK2.out; omega⟩, ⟨by (with_reducible repeat (first | refine blk_drewN ?_ _ | refine blk_drew ?_ | refine blk_alloc ?_ _)); exact BK148.out⟩, ⟨by repeat (first | (with_reducible first | exact HB.out | apply below_alloc | apply pw_below_drewN | apply below_drew1 | refine below_set ?_ GE148.out) | exact HB.out)⟩⟩
                · rw [if_neg c12] at H
                  exact absurd H (by simp)
              · rw [if_neg c11] at H
                exact absurd H (by simp)
      · rw [if_neg c3] at H
        have c3b0 : decide (x3_1 < (l0.length : Int)) = false := decide_eq_false c3
        clear c3
        simp only [Option.some.injEq, Prod.mk.injEq] at H
        obtain ⟨rfl, rfl⟩ := H
        have hcz17_0 : wr.cell? ⟨gb148, 0, none⟩ = some (.int .i64 x149000_1) := (blk_cell BK148.out 0).trans rfl
        have hcz17_1 : wr.cell? ⟨gb148, 1, none⟩ = some (.int .i64 x149001_1) := (blk_cell BK148.out 1).trans rfl
        have hfz17_0 := blk_frozen BK148.out 0
        have hfz17_1 := blk_frozen BK148.out 1
        go_wp2
        repeat (go_quiet (fail); try go_wp2)
        refine bodyPost_ret (results_cell_row rfl _ _ gb148 29 #[.int .i64 0, .int .i64 0] (0, 0) _ rfl (by (with_reducible repeat (first | refine blk_drewN ?_ _ | refine blk_drew ?_ | refine blk_alloc ?_ _)); refine blk_put (cs := #[.int .i64 0, .int .i64 x149001_1]) ?_ 1 _ rfl; (with_reducible repeat (first | refine blk_drewN ?_ _ | refine blk_drew ?_ | refine blk_alloc ?_ _)); refine blk_put (cs := #[.int .i64 x149000_1, .int .i64 x149001_1]) ?_ 0 _ rfl; (with_reducible repeat (first | refine blk_drewN ?_ _ | refine blk_drew ?_ | refine blk_alloc ?_ _)); exact BK148.out) Try.underlying29 rfl (by kernel_rfl)) rfl ?_
        exact ⟨by first | rfl | (simp [errW_none, errW_some] <;> rfl) | (simp [*, errW_none, errW_some] <;> rfl), by repeat (first | (with_reducible first | exact HB.out | apply below_alloc | apply pw_below_drewN | apply below_drew1 | refine below_set ?_ GE148.out) | exact HB.out)⟩

/-! ### plaitinglaw15_VoteAll: function 3 -/
mutual
def plaitinglaw15_VoteAll.l0 : Nat → Int → List (S31) → List (S44) → List (S31) → Int → Option (Bool)
  | 0, _, _, _, _, _ => none
  | k + 1, x1, x5, x6, x7, x8 => if x8 < (x5.length : Int) then ((plaitinglaw15_within.f x1 (x5.length : Int)).bind fun t161 => (if (x5.length : Int) = 0 then (none) else (if 0 ≤ (Int.tmod (wrap64 ((wrap64 (x8 * 7)) + t161)) (x5.length : Int)) then (if (Int.tmod (wrap64 ((wrap64 (x8 * 7)) + t161)) (x5.length : Int)) < (x5.length : Int) then (if x7.length < 5864062014805 then (plaitinglaw15_VoteAll.l0 k x1 x5 x6 (x7 ++ [(⟨(rd_T31 x5 (Int.tmod (wrap64 ((wrap64 (x8 * 7)) + t161)) (x5.length : Int))).f0, (⟨(rd_T31 x5 (Int.tmod (wrap64 ((wrap64 (x8 * 7)) + t161)) (x5.length : Int))).f1.f0, (rd_T31 x5 (Int.tmod (wrap64 ((wrap64 (x8 * 7)) + t161)) (x5.length : Int))).f1.f1⟩ : S29)⟩ : S31)]) (wrap64 (x8 + 1))) else (none)) else (none)) else (none)))) else (if ((x5.length : Int) % 7) = 0 then (plaitinglaw15_VoteAll.j1 k x5 x6 x5) else (plaitinglaw15_VoteAll.j1 k x5 x6 x7))
def plaitinglaw15_VoteAll.j1 : Nat → List (S31) → List (S44) → List (S31) → Option (Bool)
  | 0, _, _, _ => none
  | k + 1, x5, x6, x7 => (vote_Most.f k x5).bind fun bt166 => ((plaitingref15_Most.f k x6).bind fun bt168 => (if (bt166.1 == bt168.1 && (bt166.2 == bt168.2)) = true then ((vote_Most.f k x7).bind fun bt170 => ((plaitingref15_Most.f k x6).bind fun bt172 => (some (bt170.1 == bt172.1 && (bt170.2 == bt172.2))))) else (some false)))
end
def plaitinglaw15_VoteAll.f (k : Nat) (l0 : List Int) (a1 : Int) : Option (Bool) := (plaitinglaw15_known.f k).bind fun t154 => (if t154 = true then ((plaitinglaw15_Row.f k l0).bind fun bt155 => (plaitinglaw15_VoteAll.l0 k a1 bt155.1 bt155.2 ([] : List (S31)) 0)) else (some false))
theorem plaitinglaw15_VoteAll.mono_l : ∀ k, (∀ y0 y1 y2 y3 y4, LeO (plaitinglaw15_VoteAll.l0 k y0 y1 y2 y3 y4) (plaitinglaw15_VoteAll.l0 (k + 1) y0 y1 y2 y3 y4)) ∧ (∀ y0 y1 y2, LeO (plaitinglaw15_VoteAll.j1 k y0 y1 y2) (plaitinglaw15_VoteAll.j1 (k + 1) y0 y1 y2))
  | 0 => ⟨fun _ _ _ _ _ r h => by simp [plaitinglaw15_VoteAll.l0] at h, fun _ _ _ r h => by simp [plaitinglaw15_VoteAll.j1] at h⟩
  | k + 1 => by
    obtain ⟨ih0, ih1⟩ := plaitinglaw15_VoteAll.mono_l k
    refine ⟨?_, ?_⟩
    · intro y0 y1 y2 y3 y4
      unfold plaitinglaw15_VoteAll.l0
      repeat' first
      | (with_reducible exact ih0 _ _ _ _ _)
      | (with_reducible exact ih1 _ _ _)
      | (with_reducible exact plaitinglaw15_Row.mono _ _)
      | (with_reducible exact plaitinglaw15_known.mono _)
      | (with_reducible exact plaitingref15_Most.mono _ _)
      | (with_reducible exact vote_Most.mono _ _)
      | (with_reducible exact LeO.refl _)
      | (with_reducible exact LeO.none _)
      | (with_reducible refine LeO.ite ?_ ?_)
      | (with_reducible refine LeO.bind ?_ (fun _ => ?_))
      | exact ih0 _ _ _ _ _
      | exact ih1 _ _ _
      | exact plaitinglaw15_Row.mono _ _
      | exact plaitinglaw15_known.mono _
      | exact plaitingref15_Most.mono _ _
      | exact vote_Most.mono _ _
      | exact LeO.none _
      | refine LeO.ite ?_ ?_
      | refine LeO.bind ?_ (fun _ => ?_)
    · intro y0 y1 y2
      unfold plaitinglaw15_VoteAll.j1
      repeat' first
      | (with_reducible exact ih0 _ _ _ _ _)
      | (with_reducible exact ih1 _ _ _)
      | (with_reducible exact plaitinglaw15_Row.mono _ _)
      | (with_reducible exact plaitinglaw15_known.mono _)
      | (with_reducible exact plaitingref15_Most.mono _ _)
      | (with_reducible exact vote_Most.mono _ _)
      | (with_reducible exact LeO.refl _)
      | (with_reducible exact LeO.none _)
      | (with_reducible refine LeO.ite ?_ ?_)
      | (with_reducible refine LeO.bind ?_ (fun _ => ?_))
      | exact ih0 _ _ _ _ _
      | exact ih1 _ _ _
      | exact plaitinglaw15_Row.mono _ _
      | exact plaitinglaw15_known.mono _
      | exact plaitingref15_Most.mono _ _
      | exact vote_Most.mono _ _
      | exact LeO.none _
      | refine LeO.ite ?_ ?_
      | refine LeO.bind ?_ (fun _ => ?_)
theorem plaitinglaw15_VoteAll.mono : ∀ a0 a1 k, LeO (plaitinglaw15_VoteAll.f k a0 a1) (plaitinglaw15_VoteAll.f (k + 1) a0 a1) := by
  intro a0 a1 k
  obtain ⟨ih0, ih1⟩ := plaitinglaw15_VoteAll.mono_l k
  unfold plaitinglaw15_VoteAll.f
  repeat' first
      | (with_reducible exact ih0 _ _ _ _ _)
      | (with_reducible exact ih1 _ _ _)
      | (with_reducible exact plaitinglaw15_Row.mono _ _)
      | (with_reducible exact plaitinglaw15_known.mono _)
      | (with_reducible exact plaitingref15_Most.mono _ _)
      | (with_reducible exact vote_Most.mono _ _)
      | (with_reducible exact LeO.refl _)
      | (with_reducible exact LeO.none _)
      | (with_reducible refine LeO.ite ?_ ?_)
      | (with_reducible refine LeO.bind ?_ (fun _ => ?_))
      | exact ih0 _ _ _ _ _
      | exact ih1 _ _ _
      | exact plaitinglaw15_Row.mono _ _
      | exact plaitinglaw15_known.mono _
      | exact plaitingref15_Most.mono _ _
      | exact vote_Most.mono _ _
      | exact LeO.none _
      | refine LeO.ite ?_ ?_
      | refine LeO.bind ?_ (fun _ => ?_)
set_option maxHeartbeats 8000000 in
set_option maxRecDepth 100000 in
theorem plaitinglaw15_VoteAll.calls (k : Nat) (A0 : Option Addr) (c0 : Nat) (l0 : List Int) (a1 : Int) (r : Bool) (w : World) (hr0 : Kd.C (Kd.int .i64) w A0 l0.length l0) (hc0 : l0.length ≤ c0) (h : plaitinglaw15_VoteAll.f k l0 a1 = some r) :
    Calls Try.prog 3 #[.slice A0 l0.length c0, .int .i64 a1] w fun e w' => e = .returned (.bool r) ∧ Below w.heap.size w w' := by
  have hu31 := Try.underlying31
  have HR0 := Aside0.mk hr0
  have HC0 := Aside0.mk hc0
  clear hr0 hc0
  have HB := Aside0.mk (Below.refl w.heap.size w)
  have H : ((plaitinglaw15_known.f k).bind fun t154 => (if t154 = true then ((plaitinglaw15_Row.f k l0).bind fun bt155 => (plaitinglaw15_VoteAll.l0 k a1 bt155.1 bt155.2 ([] : List (S31)) 0)) else (some false))) = some r := h
  clear h
  replace H := Option.bind_eq_some_iff.mp H
  obtain ⟨t154, A30, H⟩ := H
  replace H : (if t154 = true then ((plaitinglaw15_Row.f k l0).bind fun bt155 => (plaitinglaw15_VoteAll.l0 k a1 bt155.1 bt155.2 ([] : List (S31)) 0)) else (some false)) = some r := H
  have A3 := Aside0.mk A30
  clear A30
  by_cases c4 : t154 = true
  · subst c4
    have H1 : ((plaitinglaw15_Row.f k l0).bind fun bt155 => (plaitinglaw15_VoteAll.l0 k a1 bt155.1 bt155.2 ([] : List (S31)) 0)) = some r := by rw [if_pos rfl] at H; exact H
    clear H
    have H := H1
    clear H1
    replace H := Option.bind_eq_some_iff.mp H
    obtain ⟨⟨t155, t156⟩, A50, H⟩ := H
    replace H : (plaitinglaw15_VoteAll.l0 k a1 t155 t156 ([] : List (S31)) 0) = some r := H
    have A5 := Aside0.mk A50
    clear A50
    have H' := Aside0.mk H
    clear H
    go_enter Try.func3, Try.ntmps3
    go_wp2_with (first | ((with_reducible refine gate_callee (f := 9) rfl ?_); refine goesL_ (some 9) rfl rfl Try.func9 (by kernel_rfl) rfl #[] rfl (by (try simp only [List.map_toArray, List.map_cons, List.map_nil]); first | done | rfl | (simp only [List.length_drop, List.length_take]; rfl)) ?_; (with_reducible refine (plaitinglaw15_known.calls k  true _ A3.out).mono ?_); rintro e w6 ⟨rfl, hb⟩; refine ⟨_, rfl, ?_⟩; have n0_ := Aside0.mk (below_step (by repeat (first | (with_reducible first | exact HB.out | apply below_alloc | apply pw_below_drewN | apply below_drew1) | exact HB.out)) hb); clear HB; have HB := n0_; clear n0_; (try clear hb); (try clear hb2); (try clear hk); (try clear hi)) | ((with_reducible refine gate_callee (f := 10) rfl ?_); refine goesL_ (some 13) rfl rfl Try.func10 (by kernel_rfl) rfl #[.slice A0 l0.length c0] rfl (by (try simp only [List.map_toArray, List.map_cons, List.map_nil]); first | done | rfl | (simp only [List.length_drop, List.length_take]; rfl)) ?_; (with_reducible refine (plaitinglaw15_Row.calls k _ _ l0 t155 t156 _ ?side1 ?side2 A5.out).mono ?_); (case side1 => repeat (first | exact (Kd.C_below HR0.out HB.out) | (with_reducible refine Kd.C_alloc ?_ _) | (with_reducible refine Kd.C_drewN ?_ _) | (with_reducible refine Kd.C_drew ?_))); (case side2 => exact HC0.out); rintro e w7 ⟨v157, v159, rfl, ho0, ho1, hb⟩; refine ⟨_, rfl, ?_⟩; have n0_ := Aside0.mk (Kd.R_lower ho0 (below_size (by repeat (first | (with_reducible first | exact HB.out | apply below_alloc | apply pw_below_drewN | apply below_drew1) | exact HB.out)))); have n1_ := Aside0.mk (Kd.R_lower ho1 (below_size (by repeat (first | (with_reducible first | exact HB.out | apply below_alloc | apply pw_below_drewN | apply below_drew1) | exact HB.out)))); have n2_ := Aside0.mk (below_step (by repeat (first | (with_reducible first | exact HB.out | apply below_alloc | apply pw_below_drewN | apply below_drew1) | exact HB.out)) hb); clear HB; have HO158 := n0_; have HO160 := n1_; have HB := n2_; clear n0_ n1_ n2_; (try clear hb); (try clear hb2); (try clear hk); (try clear hi); (try clear ho0); (try clear ho1)))
    go_loopg [7, 8] k (fun kq v7 v8 w' => ∃ (x7_1 : List (S31)) (x8_1 : Int), v8 = .int .i64 x8_1 ∧ Aside0 (plaitinglaw15_VoteAll.l0 kq a1 t155 t156 x7_1 x8_1 = some r) ∧ Aside0 (kq ≤ k) ∧ Aside0 (Kd.R k31 31 w' w.heap.size (fun k_ => some k_ ≠ (v7 : Value).ownBlock) v157 t155) ∧ Aside0 (Kd.R k44 44 w' w.heap.size (fun _ => True) v159 t156) ∧ Aside0 (Kd.R k31 31 w' w.heap.size (fun k_ => some k_ ≠ (v157 : Value).ownBlock) v7 x7_1) ∧ Aside0 (Below w.heap.size w w'))
    case atStart => exact ⟨(([] : List (S31))), (0), (by first | rfl | (simp; done) | (simp [*]; done)), H', ⟨Nat.le_refl _⟩, ⟨by (with_reducible repeat (first | apply Kd.R_alloc | apply Kd.R_drewN | apply Kd.R_drew)); exact Kd.R_mono HO158.out (fun _ hk => (by simp [Value.ownBlock]))⟩, ⟨by (with_reducible repeat (first | apply Kd.R_alloc | apply Kd.R_drewN | apply Kd.R_drew)); exact HO160.out⟩, ⟨by first | exact Kd.R_nil _ _ _ _ _ | exact Kd.N_nil _ _ _ _ _ | exact Kd.V_nil _ _ _ _ _ | exact Kd.Q_nil _ _ _ _ _ | exact Kd.S_nil _ _ _ _ _⟩, ⟨by repeat (first | (with_reducible first | exact HB.out | apply below_alloc | apply pw_below_drewN | apply below_drew1) | exact HB.out)⟩⟩
    case round =>
      clear H'
      try clear c1
      try clear p2
      try clear c3
      try clear c4
      obtain ⟨x7_1, x8_1, rfl, HA, HK1, HO_5, HO_6, HO_7, HB⟩ := hrel
      cases gk with
      | zero => exact absurd HA.out (by simp [plaitinglaw15_VoteAll.l0])
      | succ k1 =>
        have H := HA.out
        clear HA
        simp only [plaitinglaw15_VoteAll.l0] at H
        by_cases c8 : x8_1 < (t155.length : Int)
        · rw [if_pos c8] at H
          have c8b0 : decide (x8_1 < (t155.length : Int)) = true := decide_eq_true c8
          clear c8
          replace H := Option.bind_eq_some_iff.mp H
          obtain ⟨t161, A90, H⟩ := H
          replace H : (if (t155.length : Int) = 0 then (none) else (if 0 ≤ (Int.tmod (wrap64 ((wrap64 (x8_1 * 7)) + t161)) (t155.length : Int)) then (if (Int.tmod (wrap64 ((wrap64 (x8_1 * 7)) + t161)) (t155.length : Int)) < (t155.length : Int) then (if x7_1.length < 5864062014805 then (plaitinglaw15_VoteAll.l0 k1 a1 t155 t156 (x7_1 ++ [(⟨(rd_T31 t155 (Int.tmod (wrap64 ((wrap64 (x8_1 * 7)) + t161)) (t155.length : Int))).f0, (⟨(rd_T31 t155 (Int.tmod (wrap64 ((wrap64 (x8_1 * 7)) + t161)) (t155.length : Int))).f1.f0, (rd_T31 t155 (Int.tmod (wrap64 ((wrap64 (x8_1 * 7)) + t161)) (t155.length : Int))).f1.f1⟩ : S29)⟩ : S31)]) (wrap64 (x8_1 + 1))) else (none)) else (none)) else (none))) = some r := H
          have A9 := Aside0.mk A90
          clear A90
          by_cases c10 : (t155.length : Int) = 0
          · rw [if_pos c10] at H
            exact absurd H (by simp)
          · rw [if_neg c10] at H
            have c10b0 : ((t155.length : Int) == 0) = false := beq_eq_false_iff_ne.mpr c10
            have c10b1 : ((t155.length : Int) != 0) = true := bne_iff_ne.mpr c10
            have c10b2 : ¬ (t155 = []) := fun h_ => c10 (by rw [h_]; rfl)
            obtain ⟨ji11, hji11⟩ : ∃ j_ : Int, (Int.tmod (wrap64 ((wrap64 (x8_1 * 7)) + t161)) (t155.length : Int)) = j_ := ⟨_, rfl⟩
            replace H : (if 0 ≤ (ji11) then (if (ji11) < (t155.length : Int) then (if x7_1.length < 5864062014805 then (plaitinglaw15_VoteAll.l0 k1 a1 t155 t156 (x7_1 ++ [(⟨(rd_T31 t155 (ji11)).f0, (⟨(rd_T31 t155 (ji11)).f1.f0, (rd_T31 t155 (ji11)).f1.f1⟩ : S29)⟩ : S31)]) (wrap64 (x8_1 + 1))) else (none)) else (none)) else (none)) = some r := by first | (rw [hji11] at H; exact H) | (simp only [hji11] at H ⊢; exact H)
            (try rw [hji11] at A9)
            by_cases c12 : 0 ≤ (ji11)
            · rw [if_pos c12] at H
              have c12b0 : decide (0 ≤ (ji11)) = true := decide_eq_true c12
              clear c12
              by_cases c13 : (ji11) < (t155.length : Int)
              · rw [if_pos c13] at H
                have c13b0 : decide ((ji11) < (t155.length : Int)) = true := decide_eq_true c13
                clear c13
                by_cases c14 : x7_1.length < 5864062014805
                · rw [if_pos c14] at H
                  have LMc14 := Aside0.mk c14
                  clear c14
                  obtain ⟨y163, hy163⟩ : ∃ y_ : List (S31), y_ = (x7_1 ++ [(⟨(rd_T31 t155 (ji11)).f0, (⟨(rd_T31 t155 (ji11)).f1.f0, (rd_T31 t155 (ji11)).f1.f1⟩ : S29)⟩ : S31)]) := ⟨_, rfl⟩
                  replace H : (plaitinglaw15_VoteAll.l0 k1 a1 t155 t156 y163 (wrap64 (x8_1 + 1))) = some r := by first | (rw [hy163]; with_reducible exact H) | (have H2_ := (Option.bind_some _ _).symm.trans H; rw [hy163]; with_reducible exact H2_) | (have H2_ := (Option.bind_some _ _).symm.trans H; with_reducible exact H2_) | with_reducible exact H | (rw [hy163]; exact H) | exact H
                  have Ny163 := Aside0.mk hy163
                  clear hy163
                  have H' := Aside0.mk H
                  clear H
                  obtain ⟨Ao15, co15, eo15⟩ := Kd.R_slice HO_5.out
                  subst eo15
                  go_wp2_with (first | ((with_reducible refine gate_callee (f := 11) rfl ?_); refine goesL_ (some 29) rfl rfl Try.func11 (by kernel_rfl) rfl #[.int .i64 a1, .int .i64 (t155.length : Int)] rfl (by (try simp only [List.map_toArray, List.map_cons, List.map_nil]); first | done | rfl | (simp only [List.length_drop, List.length_take]; rfl)) ?_; (with_reducible refine (plaitinglaw15_within.calls a1 (t155.length : Int) t161 _ A9.out).mono ?_); rintro e w' ⟨rfl, ⟨nd, rfl⟩⟩; refine ⟨_, rfl, ?_⟩; have p162 : 0 ≤ ((ji11) : Int) := of_decide_eq_true (by first | (with_reducible assumption) | assumption); have q162 : (ji11) < (t155.length : Int) := of_decide_eq_true (by first | (with_reducible assumption) | assumption); obtain ⟨ad162, e162, hx162_0, hx162_1, hx162_2⟩ := at_T31 (Kd.R_reads' HO_5.out).2.2 (ji11) p162 q162; cases e162; replace p162 := eq_true p162; replace q162 := eq_true q162) | ((with_reducible refine gate_builtin (b := .append) (xs := #[.tmp 22, .tmp 36]) rfl ?_); at_builtin; refine Kd.R_append k31 (w0 := w) w.heap.size rfl (.tmp 22) (.tmp 36) 24 31 (.agg #[(.bool false), (.int .i64 0), (.int .i64 0)]) 24 rfl Try.underlying24 info31 rfl (by decide) (by omega) u7 x7_1 (⟨(rd_T31 t155 (ji11)).f0, (⟨(rd_T31 t155 (ji11)).f1.f0, (rd_T31 t155 (ji11)).f1.f1⟩ : S29)⟩ : S31) [.bool ((rd_T31 t155 (ji11)).f0), .int .i64 ((rd_T31 t155 (ji11)).f1.f0), .int .i64 ((rd_T31 t155 (ji11)).f1.f1)] (fun k_ => some k_ ≠ (.slice (some ad162) t155.length co15 : Value).ownBlock) (fun _ => False) rfl rfl ?aP (fun _ hk => hk.elim) ?aF ?aO ?aB ?aS ?aL ?_; (case aP => exact k31_mkM _ _ _ (⟨(rd_T31 t155 (ji11)).f0, (⟨(rd_T31 t155 (ji11)).f1.f0, (rd_T31 t155 (ji11)).f1.f1⟩ : S29)⟩ : S31)); (case aB => exact (by repeat (first | (with_reducible first | exact HB.out | apply below_alloc | apply pw_below_drewN | apply below_drew1) | exact HB.out))); (case aF => exact (fun k_ hk => Kd.fresh' (Kd.R_lt (by (with_reducible repeat (first | apply Kd.R_alloc | apply Kd.R_drewN | apply Kd.R_drew)); exact HO_5.out)) k_ hk)); (case aO => exact (by (with_reducible repeat (first | apply Kd.R_alloc | apply Kd.R_drewN | apply Kd.R_drew)); exact HO_7.out)); (case aS => exact (below_size (by repeat (first | (with_reducible first | exact HB.out | apply below_alloc | apply pw_below_drewN | apply below_drew1) | exact HB.out)))); (case aL => have := LMc14.out; omega); intro v164 w16 ho hb hg hat; rw [← Ny163.out] at ho; have n0_ := Aside0.mk (Kd.R_after (ok := (fun _ => True)) (by (with_reducible repeat (first | apply Kd.R_alloc | apply Kd.R_drewN | apply Kd.R_drew)); exact Kd.R_mono HO_5.out (fun _ hk => ⟨trivial, hk⟩)) hg hat); have n1_ := Aside0.mk (Kd.R_over' (by (with_reducible repeat (first | apply Kd.R_alloc | apply Kd.R_drewN | apply Kd.R_drew)); exact HO_6.out) (Kd.R_typed (by (with_reducible repeat (first | apply Kd.R_alloc | apply Kd.R_drewN | apply Kd.R_drew)); exact HO_7.out)) (by decide) hg); have n2_ := Aside0.mk (hb); have n3_ := Aside0.mk (ho); clear HO_5; clear HO_6; clear HB; clear HO_7; have HO_5 := n0_; have HO_6 := n1_; have HB := n2_; have HO165 := n3_; clear n0_ n1_ n2_ n3_; clear ho hb hg hat))
                  go_roundg k1
                  case measure => have := HK1.out; omega
                  case rel => exact ⟨(y163), (wrap64 (x8_1 + 1)), (by first | rfl | (simp; done) | (simp [*]; done)), H', ⟨by have := HK1.out; omega⟩, ⟨by (with_reducible repeat (first | apply Kd.R_alloc | apply Kd.R_drewN | apply Kd.R_drew)); exact Kd.R_mono HO_5.out (fun _ hk => hk.2)⟩, ⟨by (with_reducible repeat (first | apply Kd.R_alloc | apply Kd.R_drewN | apply Kd.R_drew)); exact HO_6.out⟩, ⟨by (with_reducible repeat (first | apply Kd.R_alloc | apply Kd.R_drewN | apply Kd.R_drew)); exact HO165.out⟩, ⟨by repeat (first | (with_reducible first | exact HB.out | apply below_alloc | apply pw_below_drewN | apply below_drew1) | exact HB.out)⟩⟩
                · rw [if_neg c14] at H
                  exact absurd H (by simp)
              · rw [if_neg c13] at H
                exact absurd H (by simp)
            · rw [if_neg c12] at H
              exact absurd H (by simp)
        · rw [if_neg c8] at H
          have c8b0 : decide (x8_1 < (t155.length : Int)) = false := decide_eq_false c8
          clear c8
          have HC17 := Aside0.mk H
          clear H
          obtain ⟨Ao18, co18, eo18⟩ := Kd.R_slice HO_5.out
          subst eo18
          go_upto_if 41 with (fail)
          go_cut [7] (fun v7 wc => ∃ (kq : Nat) (x7_16 : List (S31)), Aside0 (plaitinglaw15_VoteAll.j1 kq t155 t156 x7_16 = some r) ∧ Aside0 (kq ≤ k1) ∧ Aside0 (Kd.R k31 31 wc w.heap.size (fun _ => True) (.slice Ao18 t155.length co18) t155) ∧ Aside0 (Kd.R k44 44 wc w.heap.size (fun _ => True) v159 t156) ∧ Aside0 (Kd.R k31 31 wc w.heap.size (fun _ => True) v7 x7_16) ∧ Aside0 (Below w.heap.size w wc))
          case first =>
            have H := HC17.out
            clear HC17
            by_cases c19 : ((t155.length : Int) % 7) = 0
            · rw [if_pos c19] at H
              have c19b0 : (((t155.length : Int) % 7) == 0) = true := beq_iff_eq.mpr c19
              have c19b1 : (((t155.length : Int) % 7) != 0) = false := bne_eq_false_iff_eq.mpr c19
              clear c19
              (first | rw [c19b0] | (simp only [i64_w, i32_w]; rw [c19b0]) | skip)
              have H' := Aside0.mk H
              clear H
              go_wp2
              go_meet
              case rel => exact ⟨_, (t155), H', ⟨by have := HK1.out; first | omega | exact Nat.le_refl _⟩, ⟨by (with_reducible repeat (first | apply Kd.R_alloc | apply Kd.R_drewN | apply Kd.R_drew)); exact Kd.R_mono HO_5.out (fun _ hk => trivial)⟩, ⟨by (with_reducible repeat (first | apply Kd.R_alloc | apply Kd.R_drewN | apply Kd.R_drew)); exact HO_6.out⟩, ⟨by (with_reducible repeat (first | apply Kd.R_alloc | apply Kd.R_drewN | apply Kd.R_drew)); exact Kd.R_mono HO_5.out (fun _ hk => trivial)⟩, ⟨by repeat (first | (with_reducible first | exact HB.out | apply below_alloc | apply pw_below_drewN | apply below_drew1) | exact HB.out)⟩⟩
            · rw [if_neg c19] at H
              have c19b0 : (((t155.length : Int) % 7) == 0) = false := beq_eq_false_iff_ne.mpr c19
              have c19b1 : (((t155.length : Int) % 7) != 0) = true := bne_iff_ne.mpr c19
              (first | rw [c19b0] | (simp only [i64_w, i32_w]; rw [c19b0]) | skip)
              have H' := Aside0.mk H
              clear H
              go_wp2
              go_meet
              case rel => exact ⟨_, (x7_1), H', ⟨by have := HK1.out; first | omega | exact Nat.le_refl _⟩, ⟨by (with_reducible repeat (first | apply Kd.R_alloc | apply Kd.R_drewN | apply Kd.R_drew)); exact Kd.R_mono HO_5.out (fun _ _ => trivial)⟩, ⟨by (with_reducible repeat (first | apply Kd.R_alloc | apply Kd.R_drewN | apply Kd.R_drew)); exact HO_6.out⟩, ⟨by (with_reducible repeat (first | apply Kd.R_alloc | apply Kd.R_drewN | apply Kd.R_drew)); exact Kd.R_mono HO_7.out (fun _ _ => trivial)⟩, ⟨by repeat (first | (with_reducible first | exact HB.out | apply below_alloc | apply pw_below_drewN | apply below_drew1) | exact HB.out)⟩⟩
          case rest =>
            clear HC17
            try clear c1
            try clear p1
            try clear q1
            try clear hx1
            try clear p2
            try clear c3
            try clear c4
            try clear p6
            try clear c8
            try clear c8b0
            try clear c9
            try clear c10
            try clear c10b0
            try clear c10b1
            try clear c10b2
            try clear c11
            try clear c12
            try clear c12b0
            try clear c13
            try clear c13b0
            try clear c14
            try clear p16
            try clear q16
            try clear hx16
            try clear c19
            try clear c19b0
            try clear c19b1
            try clear hx162_0
            try clear hx162_1
            try clear hx162_2
            try clear p162
            try clear p2
            try clear q162
            obtain ⟨kq, x7_16, HA, HJ16, HO_5, HO_6, HO_7, HB⟩ := hcut
            cases kq with
            | zero => exact absurd HA.out (by simp [plaitinglaw15_VoteAll.j1])
            | succ kj16 =>
              have H := HA.out
              clear HA
              simp only [plaitinglaw15_VoteAll.j1] at H
              replace H := Option.bind_eq_some_iff.mp H
              obtain ⟨⟨t166, t167⟩, A200, H⟩ := H
              replace H : ((plaitingref15_Most.f kj16 t156).bind fun bt168 => (if (t166 == bt168.1 && (t167 == bt168.2)) = true then ((vote_Most.f kj16 x7_16).bind fun bt170 => ((plaitingref15_Most.f kj16 t156).bind fun bt172 => (some (bt170.1 == bt172.1 && (bt170.2 == bt172.2))))) else (some false))) = some r := H
              have A20 := Aside0.mk A200
              clear A200
              replace H := Option.bind_eq_some_iff.mp H
              obtain ⟨⟨t168, t169⟩, A210, H⟩ := H
              replace H : (if (t166 == t168 && (t167 == t169)) = true then ((vote_Most.f kj16 x7_16).bind fun bt170 => ((plaitingref15_Most.f kj16 t156).bind fun bt172 => (some (bt170.1 == bt172.1 && (bt170.2 == bt172.2))))) else (some false)) = some r := H
              have A21 := Aside0.mk A210
              clear A210
              by_cases c22 : (t166 == t168 && (t167 == t169)) = true
              · rw [if_pos c22] at H
                have c22b0 : (t166 == t168 && (t167 == t169)) = true := c22
                (try (have c22b1 : decide (t166 = t168 && (t167 == t169)) = true := by simpa using c22))
                (try (have c22b2 : (t166 == t168 && (t167 == t169)) = true := by simpa using c22))
                clear c22
                replace H := Option.bind_eq_some_iff.mp H
                obtain ⟨⟨t170, t171⟩, A230, H⟩ := H
                replace H : ((plaitingref15_Most.f kj16 t156).bind fun bt172 => (some (t170 == bt172.1 && (t171 == bt172.2)))) = some r := H
                have A23 := Aside0.mk A230
                clear A230
                replace H := Option.bind_eq_some_iff.mp H
                obtain ⟨⟨t172, t173⟩, A240, H⟩ := H
                replace H : (some (t170 == t172 && (t171 == t173))) = some r := H
                have A24 := Aside0.mk A240
                clear A240
                obtain rfl := Option.some.inj H
                go_wp2_with (first | ((with_reducible refine gate_callee (f := 12) rfl ?_); refine goesL_ (some 44) rfl rfl Try.func12 (by kernel_rfl) rfl #[.slice Ao18 t155.length co18] rfl (by (try simp only [List.map_toArray, List.map_cons, List.map_nil]); first | done | rfl | (simp only [List.length_drop, List.length_take]; rfl)) ?_; (with_reducible refine (vote_Most.calls kj16 _ _ t155 t166 t167 _ ?side1 ?side2 A20.out).mono ?_); (case side1 => repeat (first | exact (Kd.R_reads' HO_5.out).2.2 | (with_reducible refine Kd.C_alloc ?_ _) | (with_reducible refine Kd.C_drewN ?_ _) | (with_reducible refine Kd.C_drew ?_))); (case side2 => exact (Kd.R_reads' HO_5.out).2.1); rintro e w25 ⟨rfl, hb⟩; refine ⟨_, rfl, ?_⟩; have n0_ := Aside0.mk (Kd.R_below (by (with_reducible repeat (first | apply Kd.R_alloc | apply Kd.R_drewN | apply Kd.R_drew)); exact HO_5.out) hb); have n1_ := Aside0.mk (Kd.R_below (by (with_reducible repeat (first | apply Kd.R_alloc | apply Kd.R_drewN | apply Kd.R_drew)); exact HO_6.out) hb); have n2_ := Aside0.mk (Kd.R_below (by (with_reducible repeat (first | apply Kd.R_alloc | apply Kd.R_drewN | apply Kd.R_drew)); exact HO_7.out) hb); have n3_ := Aside0.mk (below_step (by repeat (first | (with_reducible first | exact HB.out | apply below_alloc | apply pw_below_drewN | apply below_drew1) | exact HB.out)) hb); clear HO_5; clear HO_6; clear HO_7; clear HB; have HO_5 := n0_; have HO_6 := n1_; have HO_7 := n2_; have HB := n3_; clear n0_ n1_ n2_ n3_; (try clear hb); (try clear hb2); (try clear hk); (try clear hi); obtain ⟨Ao26, co26, eo26⟩ := Kd.R_slice HO_6.out; subst eo26) | ((with_reducible refine gate_callee (f := 13) rfl ?_); refine goesL_ (some 46) rfl rfl Try.func13 (by kernel_rfl) rfl #[.slice Ao26 t156.length co26] rfl (by (try simp only [List.map_toArray, List.map_cons, List.map_nil]); first | done | rfl | (simp only [List.length_drop, List.length_take]; rfl)) ?_; (with_reducible refine (plaitingref15_Most.calls kj16 _ _ t156 t168 t169 _ ?side1 ?side2 A21.out).mono ?_); (case side1 => repeat (first | exact (Kd.R_reads' HO_6.out).2.2 | (with_reducible refine Kd.C_alloc ?_ _) | (with_reducible refine Kd.C_drewN ?_ _) | (with_reducible refine Kd.C_drew ?_))); (case side2 => exact (Kd.R_reads' HO_6.out).2.1); rintro e w27 ⟨rfl, hb⟩; refine ⟨_, rfl, ?_⟩; have n0_ := Aside0.mk (Kd.R_below (by (with_reducible repeat (first | apply Kd.R_alloc | apply Kd.R_drewN | apply Kd.R_drew)); exact HO_5.out) hb); have n1_ := Aside0.mk (Kd.R_below (by (with_reducible repeat (first | apply Kd.R_alloc | apply Kd.R_drewN | apply Kd.R_drew)); exact HO_6.out) hb); have n2_ := Aside0.mk (Kd.R_below (by (with_reducible repeat (first | apply Kd.R_alloc | apply Kd.R_drewN | apply Kd.R_drew)); exact HO_7.out) hb); have n3_ := Aside0.mk (below_step (by repeat (first | (with_reducible first | exact HB.out | apply below_alloc | apply pw_below_drewN | apply below_drew1) | exact HB.out)) hb); clear HO_5; clear HO_6; clear HO_7; clear HB; have HO_5 := n0_; have HO_6 := n1_; have HO_7 := n2_; have HB := n3_; clear n0_ n1_ n2_ n3_; (try clear hb); (try clear hb2); (try clear hk); (try clear hi); obtain ⟨Ao28, co28, eo28⟩ := Kd.R_slice HO_7.out; subst eo28) | (go_at_call 12; (with_reducible refine (vote_Most.calls kj16 _ _ x7_16 t170 t171 _ ?side1 ?side2 A23.out).mono ?_); (case side1 => repeat (first | exact (Kd.R_reads' HO_7.out).2.2 | (with_reducible refine Kd.C_alloc ?_ _) | (with_reducible refine Kd.C_drewN ?_ _) | (with_reducible refine Kd.C_drew ?_))); (case side2 => exact (Kd.R_reads' HO_7.out).2.1); rintro e w29 ⟨rfl, hb⟩; have n0_ := Aside0.mk (Kd.R_below (by (with_reducible repeat (first | apply Kd.R_alloc | apply Kd.R_drewN | apply Kd.R_drew)); exact HO_5.out) hb); have n1_ := Aside0.mk (Kd.R_below (by (with_reducible repeat (first | apply Kd.R_alloc | apply Kd.R_drewN | apply Kd.R_drew)); exact HO_6.out) hb); have n2_ := Aside0.mk (Kd.R_below (by (with_reducible repeat (first | apply Kd.R_alloc | apply Kd.R_drewN | apply Kd.R_drew)); exact HO_7.out) hb); have n3_ := Aside0.mk (below_step (by repeat (first | (with_reducible first | exact HB.out | apply below_alloc | apply pw_below_drewN | apply below_drew1) | exact HB.out)) hb); clear HO_5; clear HO_6; clear HO_7; clear HB; have HO_5 := n0_; have HO_6 := n1_; have HO_7 := n2_; have HB := n3_; clear n0_ n1_ n2_ n3_; (try clear hb); (try clear hb2); (try clear hk); (try clear hi)) | (go_at_call 13; (with_reducible refine (plaitingref15_Most.calls kj16 _ _ t156 t172 t173 _ ?side1 ?side2 A24.out).mono ?_); (case side1 => repeat (first | exact (Kd.R_reads' HO_6.out).2.2 | (with_reducible refine Kd.C_alloc ?_ _) | (with_reducible refine Kd.C_drewN ?_ _) | (with_reducible refine Kd.C_drew ?_))); (case side2 => exact (Kd.R_reads' HO_6.out).2.1); rintro e w30 ⟨rfl, hb⟩; have n0_ := Aside0.mk (Kd.R_below (by (with_reducible repeat (first | apply Kd.R_alloc | apply Kd.R_drewN | apply Kd.R_drew)); exact HO_5.out) hb); have n1_ := Aside0.mk (Kd.R_below (by (with_reducible repeat (first | apply Kd.R_alloc | apply Kd.R_drewN | apply Kd.R_drew)); exact HO_6.out) hb); have n2_ := Aside0.mk (Kd.R_below (by (with_reducible repeat (first | apply Kd.R_alloc | apply Kd.R_drewN | apply Kd.R_drew)); exact HO_7.out) hb); have n3_ := Aside0.mk (below_step (by repeat (first | (with_reducible first | exact HB.out | apply below_alloc | apply pw_below_drewN | apply below_drew1) | exact HB.out)) hb); clear HO_5; clear HO_6; clear HO_7; clear HB; have HO_5 := n0_; have HO_6 := n1_; have HO_7 := n2_; have HB := n3_; clear n0_ n1_ n2_ n3_; (try clear hb); (try clear hb2); (try clear hk); (try clear hi)))
                go_ret
                exact ⟨by first | rfl | (simp [errW_none, errW_some] <;> rfl) | (simp [*, errW_none, errW_some] <;> rfl), by repeat (first | (with_reducible first | exact HB.out | apply below_alloc | apply pw_below_drewN | apply below_drew1) | exact HB.out)⟩
              · rw [if_neg c22] at H
                have c22b0 : (t166 == t168 && (t167 == t169)) = false := by simpa using c22
                (try (have c22b1 : decide (t166 = t168 && (t167 == t169)) = false := by simpa using c22))
                (try (have c22b2 : (t166 == t168 && (t167 == t169)) = false := by simpa using c22))
                (try (have c22b3 : ¬ (t166 = t168 && (t167 == t169)) := by simpa using c22))
                clear c22
                obtain rfl := Option.some.inj H
                go_wp2_with (first | ((with_reducible refine gate_callee (f := 12) rfl ?_); refine goesL_ (some 44) rfl rfl Try.func12 (by kernel_rfl) rfl #[.slice Ao18 t155.length co18] rfl (by (try simp only [List.map_toArray, List.map_cons, List.map_nil]); first | done | rfl | (simp only [List.length_drop, List.length_take]; rfl)) ?_; (with_reducible refine (vote_Most.calls kj16 _ _ t155 t166 t167 _ ?side1 ?side2 A20.out).mono ?_); (case side1 => repeat (first | exact (Kd.R_reads' HO_5.out).2.2 | (with_reducible refine Kd.C_alloc ?_ _) | (with_reducible refine Kd.C_drewN ?_ _) | (with_reducible refine Kd.C_drew ?_))); (case side2 => exact (Kd.R_reads' HO_5.out).2.1); rintro e w31 ⟨rfl, hb⟩; refine ⟨_, rfl, ?_⟩; have n0_ := Aside0.mk (Kd.R_below (by (with_reducible repeat (first | apply Kd.R_alloc | apply Kd.R_drewN | apply Kd.R_drew)); exact HO_5.out) hb); have n1_ := Aside0.mk (Kd.R_below (by (with_reducible repeat (first | apply Kd.R_alloc | apply Kd.R_drewN | apply Kd.R_drew)); exact HO_6.out) hb); have n2_ := Aside0.mk (Kd.R_below (by (with_reducible repeat (first | apply Kd.R_alloc | apply Kd.R_drewN | apply Kd.R_drew)); exact HO_7.out) hb); have n3_ := Aside0.mk (below_step (by repeat (first | (with_reducible first | exact HB.out | apply below_alloc | apply pw_below_drewN | apply below_drew1) | exact HB.out)) hb); clear HO_5; clear HO_6; clear HO_7; clear HB; have HO_5 := n0_; have HO_6 := n1_; have HO_7 := n2_; have HB := n3_; clear n0_ n1_ n2_ n3_; (try clear hb); (try clear hb2); (try clear hk); (try clear hi); obtain ⟨Ao32, co32, eo32⟩ := Kd.R_slice HO_6.out; subst eo32) | ((with_reducible refine gate_callee (f := 13) rfl ?_); refine goesL_ (some 46) rfl rfl Try.func13 (by kernel_rfl) rfl #[.slice Ao32 t156.length co32] rfl (by (try simp only [List.map_toArray, List.map_cons, List.map_nil]); first | done | rfl | (simp only [List.length_drop, List.length_take]; rfl)) ?_; (with_reducible refine (plaitingref15_Most.calls kj16 _ _ t156 t168 t169 _ ?side1 ?side2 A21.out).mono ?_); (case side1 => repeat (first | exact (Kd.R_reads' HO_6.out).2.2 | (with_reducible refine Kd.C_alloc ?_ _) | (with_reducible refine Kd.C_drewN ?_ _) | (with_reducible refine Kd.C_drew ?_))); (case side2 => exact (Kd.R_reads' HO_6.out).2.1); rintro e w33 ⟨rfl, hb⟩; refine ⟨_, rfl, ?_⟩; have n0_ := Aside0.mk (Kd.R_below (by (with_reducible repeat (first | apply Kd.R_alloc | apply Kd.R_drewN | apply Kd.R_drew)); exact HO_5.out) hb); have n1_ := Aside0.mk (Kd.R_below (by (with_reducible repeat (first | apply Kd.R_alloc | apply Kd.R_drewN | apply Kd.R_drew)); exact HO_6.out) hb); have n2_ := Aside0.mk (Kd.R_below (by (with_reducible repeat (first | apply Kd.R_alloc | apply Kd.R_drewN | apply Kd.R_drew)); exact HO_7.out) hb); have n3_ := Aside0.mk (below_step (by repeat (first | (with_reducible first | exact HB.out | apply below_alloc | apply pw_below_drewN | apply below_drew1) | exact HB.out)) hb); clear HO_5; clear HO_6; clear HO_7; clear HB; have HO_5 := n0_; have HO_6 := n1_; have HO_7 := n2_; have HB := n3_; clear n0_ n1_ n2_ n3_; (try clear hb); (try clear hb2); (try clear hk); (try clear hi)))
                go_ret
                exact ⟨by first | rfl | (simp [errW_none, errW_some] <;> rfl) | (simp [*, errW_none, errW_some] <;> rfl), by repeat (first | (with_reducible first | exact HB.out | apply below_alloc | apply pw_below_drewN | apply below_drew1) | exact HB.out)⟩
  · replace c4 := Bool.eq_false_iff.mpr c4
    subst c4
    have H1 : (some false) = some r := by rw [if_neg (show ¬ (false = true) by decide)] at H; exact H
    clear H
    have H := H1
    clear H1
    obtain rfl := Option.some.inj H
    go_enter Try.func3, Try.ntmps3
    go_wp2_with (first | ((with_reducible refine gate_callee (f := 9) rfl ?_); refine goesL_ (some 9) rfl rfl Try.func9 (by kernel_rfl) rfl #[] rfl (by (try simp only [List.map_toArray, List.map_cons, List.map_nil]); first | done | rfl | (simp only [List.length_drop, List.length_take]; rfl)) ?_; (with_reducible refine (plaitinglaw15_known.calls k  false _ A3.out).mono ?_); rintro e w34 ⟨rfl, hb⟩; refine ⟨_, rfl, ?_⟩; have n0_ := Aside0.mk (below_step (by repeat (first | (with_reducible first | exact HB.out | apply below_alloc | apply pw_below_drewN | apply below_drew1) | exact HB.out)) hb); clear HB; have HB := n0_; clear n0_; (try clear hb); (try clear hb2); (try clear hk); (try clear hi)))
    go_ret
    exact ⟨by first | rfl | (simp [errW_none, errW_some] <;> rfl) | (simp [*, errW_none, errW_some] <;> rfl), by repeat (first | (with_reducible first | exact HB.out | apply below_alloc | apply pw_below_drewN | apply below_drew1) | exact HB.out)⟩

/-- THE ONE PURE STATEMENT of plaitinglaw15_VoteAll: yours. -/
def plaitinglaw15_VoteAll.Pure : Prop := ∀ (l0 : List Int) (a1 : Int), l0.length ≤ maxLen → l0.length * 8 ≤ 140737488351232 → (∀ x ∈ l0, (Lit.int .i64 x).wf = true) → (Lit.int .i64 a1).wf = true → ∃ k, plaitinglaw15_VoteAll.f k l0 a1 = some true
theorem plaitinglaw15_VoteAll.walk (P : plaitinglaw15_VoteAll.Pure) (a0 : Option Addr) (len0 cap0 : Nat) (z0 : List Int) (a1 : Int) (w : World) (w0 : (a0 = none ∧ len0 = 0 ∧ cap0 = 0 ∧ z0 = []) ∨ ∃ x, a0 = some x ∧ len0 ≤ cap0 ∧ cap0 ≤ maxLen ∧ z0.length = cap0 ∧ (∀ i, i < z0.length → w.cell? (x.add i) = some (.int .i64 (z0.getD i 0))) ∧ ∀ n ∈ z0, (Lit.int .i64 n).wf = true) (y0 : len0 * 8 ≤ 140737488351232) (w1 : (Lit.int .i64 a1).wf = true) :
    Calls Try.prog 3 #[.slice a0 len0 cap0, .int .i64 a1] w fun e w' => e = .returned (.bool true) ∧ Below w.heap.size w w' := by
  obtain ⟨l0, rfl, hr0, hm0, hw0, hc0⟩ := ReadsInt.ofRowC w0
  obtain ⟨k, h⟩ := P l0 a1 hm0 y0 hw0 w1
  refine (plaitinglaw15_VoteAll.calls k _ _ l0 a1 true w (Kd.C_of_reads (d := (0 : Int)) (h1 := fun _ => rfl) hr0) hc0 h).mono ?_
  rintro e w' ⟨rfl, hd⟩
  exact ⟨rfl, hd⟩

end Go.Proofs.Ytghdfppllknabaa.PVoteAll
