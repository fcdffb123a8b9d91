/- Functions that the claim reaches, each as a plain Lean function with a proof that the Go call comes to what it answers, written by the printer of the kit for this claim over stand-in bodies whose own contracts are proved by hand. Conditions: the readings stated in each theorem. -/
import Derived.Test.YtghdfppllknabaaPVoteGrowsx0
import Derived.Test.YtghdfppllknabaaPVoteGrowsx2
namespace Go.Proofs.Ytghdfppllknabaa.PVoteGrows
open Go.RowKit Go.Proofs.YtghdfppllknabaaW.PrintWords Go.Proofs.YtghdfppllknabaaW.PrintLast Go.Proofs.YtghdfppllknabaaW.PrintMore
attribute [local go_sem] max2_int min2_int max_two min_two max_three min_three max_four min_four   -- for this text's walks alone
theorem setCell_out (w : World) (n : Nat) (a : Addr) (v : Value) : (w.drewN n).setCell a v = (w.setCell a v).drewN n := rfl
attribute [local go_sem] setCell_out   -- for this text's walks alone
set_option linter.unusedVariables false
set_option linter.unusedSimpArgs false

/-! ### plaitinglaw15_Row: function 10 -/
mutual
def plaitinglaw15_Row.l0 : Nat → List Int → List (S31) → List (S44) → Int → Option ((List (S31)) × (List (S44)))
  | 0, _, _, _, _ => none
  | k + 1, x0, x4, x5, x6 => if x6 < (x0.length : Int) then (plaitinglaw15_Row.j1 k x0 x4 x5 x6 (decide (x6 < 20))) else (plaitinglaw15_Row.j1 k x0 x4 x5 x6 false)
def plaitinglaw15_Row.j1 : Nat → List Int → List (S31) → List (S44) → Int → Bool → Option ((List (S31)) × (List (S44)))
  | 0, _, _, _, _, _ => none
  | k + 1, x0, x4, x5, x6, x16 => if x16 = true then (if 0 ≤ x6 then (if x6 < (x0.length : Int) then ((plaitinglaw15_within.f (rd x0 x6) 3).bind fun t116 => (if t116 = 2 then ((plaitinglaw15_within.f (wrap64 (Int.tdiv (rd x0 x6) 3)) 3).bind fun t119 => ((plaitinglaw15_within.f (wrap64 (Int.tdiv (rd x0 x6) 9)) 6).bind fun t121 => ((some (([(⟨decide (t121 > 0), (⟨t116, t119⟩ : S29)⟩ : S31)] : List (S31)) : List (S31))).bind fun y122 => (if x4.length + y122.length < 5864062014805 then ((some (([(⟨decide (t121 > 0), (⟨t116, t119⟩ : S29)⟩ : S44)] : List (S44)) : List (S44))).bind fun y128 => (if x5.length + y128.length < 5864062014805 then (plaitinglaw15_Row.l0 k x0 (x4 ++ y122) (x5 ++ y128) (wrap64 (x6 + 1))) else (none))) else (none))))) else ((plaitinglaw15_within.f (wrap64 (Int.tdiv (rd x0 x6) 9)) 6).bind fun t135 => ((some (([(⟨decide (t135 > 0), (⟨t116, 0⟩ : S29)⟩ : S31)] : List (S31)) : List (S31))).bind fun y136 => (if x4.length + y136.length < 5864062014805 then ((some (([(⟨decide (t135 > 0), (⟨t116, 0⟩ : S29)⟩ : S44)] : List (S44)) : List (S44))).bind fun y142 => (if x5.length + y142.length < 5864062014805 then (plaitinglaw15_Row.l0 k x0 (x4 ++ y136) (x5 ++ y142) (wrap64 (x6 + 1))) else (none))) else (none)))))) else (none)) else (none)) else (some (x4, x5))
end
def plaitinglaw15_Row.f (k : Nat) (l0 : List Int) : Option ((List (S31)) × (List (S44))) := plaitinglaw15_Row.l0 k l0 ([] : List (S31)) ([] : List (S44)) 0
theorem plaitinglaw15_Row.mono_l : ∀ k, (∀ y0 y1 y2 y3, LeO (plaitinglaw15_Row.l0 k y0 y1 y2 y3) (plaitinglaw15_Row.l0 (k + 1) y0 y1 y2 y3)) ∧ (∀ y0 y1 y2 y3 y4, LeO (plaitinglaw15_Row.j1 k y0 y1 y2 y3 y4) (plaitinglaw15_Row.j1 (k + 1) y0 y1 y2 y3 y4))
  | 0 => ⟨fun _ _ _ _ r h => by simp [plaitinglaw15_Row.l0] at h, fun _ _ _ _ _ r h => by simp [plaitinglaw15_Row.j1] at h⟩
  | k + 1 => by
    obtain ⟨ih0, ih1⟩ := plaitinglaw15_Row.mono_l k
    refine ⟨?_, ?_⟩
    · intro y0 y1 y2 y3
      unfold plaitinglaw15_Row.l0
      repeat' first
      | (with_reducible exact ih0 _ _ _ _)
      | (with_reducible exact ih1 _ _ _ _ _)
      | (with_reducible exact LeO.refl _)
      | (with_reducible exact LeO.none _)
      | (with_reducible refine LeO.ite ?_ ?_)
      | (with_reducible refine LeO.bind ?_ (fun _ => ?_))
      | exact ih0 _ _ _ _
      | exact ih1 _ _ _ _ _
      | exact LeO.none _
      | refine LeO.ite ?_ ?_
      | refine LeO.bind ?_ (fun _ => ?_)
    · intro y0 y1 y2 y3 y4
      unfold plaitinglaw15_Row.j1
      repeat' first
      | (with_reducible exact ih0 _ _ _ _)
      | (with_reducible exact ih1 _ _ _ _ _)
      | (with_reducible exact LeO.refl _)
      | (with_reducible exact LeO.none _)
      | (with_reducible refine LeO.ite ?_ ?_)
      | (with_reducible refine LeO.bind ?_ (fun _ => ?_))
      | exact ih0 _ _ _ _
      | exact ih1 _ _ _ _ _
      | exact LeO.none _
      | refine LeO.ite ?_ ?_
      | refine LeO.bind ?_ (fun _ => ?_)
theorem plaitinglaw15_Row.mono : ∀ a0 k, LeO (plaitinglaw15_Row.f k a0) (plaitinglaw15_Row.f (k + 1) a0) := by
  intro a0 k
  obtain ⟨ih0, ih1⟩ := plaitinglaw15_Row.mono_l k
  unfold plaitinglaw15_Row.f
  repeat' first
      | (with_reducible exact ih0 _ _ _ _)
      | (with_reducible exact ih1 _ _ _ _ _)
      | (with_reducible exact LeO.refl _)
      | (with_reducible exact LeO.none _)
      | (with_reducible refine LeO.ite ?_ ?_)
      | (with_reducible refine LeO.bind ?_ (fun _ => ?_))
      | exact ih0 _ _ _ _
      | exact ih1 _ _ _ _ _
      | exact LeO.none _
      | refine LeO.ite ?_ ?_
      | refine LeO.bind ?_ (fun _ => ?_)
def plaitinglaw15_Row.T10 : Bool × List (List Nat × List Nat) := (true, [([], []), ([], []), ([], []), ([1, 2], [1, 2]), ([3], [3]), ([0, 4], [0, 4]), ([], []), ([], []), ([], []), ([7, 8], [7, 8]), ([9], [9]), ([6, 10, 5], [6, 10]), ([5, 11, 0, 1, 2, 3, 4, 5], [0, 5]), ([11, 12, 0, 1, 2, 3, 4, 5, 6, 7, 8, 9, 10, 11, 12], [6, 11])])
def plaitinglaw15_Row.B10 : List Nat := [0, 0, 0, 6, 14, 31, 0, 0, 0, 384, 896, 2047, 4095, 8191]
theorem plaitinglaw15_Row.tab10 : rtab .any (opsOf Try.f10 10) = plaitinglaw15_Row.T10 := by kernel_rfl
theorem plaitinglaw15_Row.bits10 : waitsOk plaitinglaw15_Row.T10.2 plaitinglaw15_Row.B10 = true := by kernel_rfl
set_option maxHeartbeats 8000000 in
set_option maxRecDepth 100000 in
theorem plaitinglaw15_Row.calls (k : Nat) (A0 : Option Addr) (c0 : Nat) (l0 : List Int) (r1 : List (S31)) (r2 : List (S44)) (w : World) (hr0 : Kd.C (Kd.int .i64) w A0 l0.length l0) (hc0 : l0.length ≤ c0) (h : plaitinglaw15_Row.f k l0 = some (r1, r2)) :
    Calls Try.prog 10 #[.slice A0 l0.length c0] w fun e w' => ∃ v0_ v1_ : Value, e = .returned (.tuple #[v0_, v1_]) ∧ Kd.R k31 31 w' w.heap.size (fun _ => True) v0_ r1 ∧ Kd.R k44 44 w' w.heap.size (fun _ => True) v1_ r2 ∧ Below w.heap.size w w' := by
  have hu29 := Try.underlying29
  have hu31 := Try.underlying31
  have hu44 := Try.underlying44
  have HR0 := Aside0.mk hr0
  have HC0 := Aside0.mk hc0
  clear hr0 hc0
  have HB := Aside0.mk (Below.refl w.heap.size w)
  have H : (plaitinglaw15_Row.l0 k l0 ([] : List (S31)) ([] : List (S44)) 0) = some (r1, r2) := h
  clear h
  have H' := Aside0.mk H
  clear H
  go_enter Try.func10, Try.ntmps10
  go_wp2
  go_loopg [4, 5, 6] k (fun kq v4 v5 v6 w' => ∃ (x4_1 : List (S31)) (x5_1 : List (S44)) (x6_1 : Int), v6 = .int .i64 x6_1 ∧ Aside0 (plaitinglaw15_Row.l0 kq l0 x4_1 x5_1 x6_1 = some (r1, r2)) ∧ Aside0 (kq ≤ k) ∧ Aside0 (Kd.R k31 31 w' w.heap.size (fun _ => True) v4 x4_1) ∧ Aside0 (Kd.R k44 44 w' w.heap.size (fun _ => True) v5 x5_1) ∧ Aside0 (Below w.heap.size w w'))
  case atStart => exact ⟨(([] : List (S31))), (([] : List (S44))), (0), (by first | rfl | (simp; done) | (simp [*]; done)), H', ⟨Nat.le_refl _⟩, ⟨by first | exact Kd.R_nil _ _ _ _ _ | exact Kd.N_nil _ _ _ _ _ | exact Kd.V_nil _ _ _ _ _ | exact Kd.Q_nil _ _ _ _ _ | exact Kd.S_nil _ _ _ _ _⟩, ⟨by first | exact Kd.R_nil _ _ _ _ _ | exact Kd.N_nil _ _ _ _ _ | exact Kd.V_nil _ _ _ _ _ | exact Kd.Q_nil _ _ _ _ _ | exact Kd.S_nil _ _ _ _ _⟩, ⟨by repeat (first | (with_reducible first | exact HB.out | apply below_alloc | apply pw_below_drewN | apply below_drew1) | exact HB.out)⟩⟩
  case round =>
    clear H'
    try clear c1
    obtain ⟨x4_1, x5_1, x6_1, rfl, HA, HK1, HO_4, HO_5, HB⟩ := hrel
    cases gk with
    | zero => exact absurd HA.out (by simp [plaitinglaw15_Row.l0])
    | succ k1 =>
      have H := HA.out
      clear HA
      simp only [plaitinglaw15_Row.l0] at H
      have HC2 := Aside0.mk H
      clear H
      go_upto_region 4 with (fail)
      go_cut [16] (fun v16 wc => ∃ (kq : Nat) (x16_1 : Bool), v16 = .bool x16_1 ∧ Aside0 (plaitinglaw15_Row.j1 kq l0 x4_1 x5_1 x6_1 x16_1 = some (r1, r2)) ∧ Aside0 (kq ≤ k1) ∧ Aside0 (Kd.R k31 31 wc w.heap.size (fun _ => True) u4 x4_1) ∧ Aside0 (Kd.R k44 44 wc w.heap.size (fun _ => True) u5 x5_1) ∧ Aside0 (Below w.heap.size w wc))
      case first =>
        have H := HC2.out
        clear HC2
        by_cases c3 : x6_1 < (l0.length : Int)
        · rw [if_pos c3] at H
          have c3b0 : decide (x6_1 < (l0.length : Int)) = true := decide_eq_true c3
          clear c3
          (first | rw [c3b0] | (simp only [i64_w, i32_w]; rw [c3b0]) | skip)
          have H' := Aside0.mk H
          clear H
          go_wp2
          go_meet
          case rel => exact ⟨_, (decide (x6_1 < 20)), (by first | rfl | (simp; done) | (simp [*]; done)), H', ⟨by have := HK1.out; first | omega | exact Nat.le_refl _⟩, ⟨by (with_reducible repeat (first | apply Kd.R_alloc | apply Kd.R_drewN | apply Kd.R_drew)); exact HO_4.out⟩, ⟨by (with_reducible repeat (first | apply Kd.R_alloc | apply Kd.R_drewN | apply Kd.R_drew)); exact HO_5.out⟩, ⟨by repeat (first | (with_reducible first | exact HB.out | apply below_alloc | apply pw_below_drewN | apply below_drew1) | exact HB.out)⟩⟩
        · rw [if_neg c3] at H
          have c3b0 : decide (x6_1 < (l0.length : Int)) = false := decide_eq_false c3
          clear c3
          (first | rw [c3b0] | (simp only [i64_w, i32_w]; rw [c3b0]) | skip)
          have H' := Aside0.mk H
          clear H
          go_wp2
          go_meet
          case rel => exact ⟨_, (false), (by first | rfl | (simp; done) | (simp [*]; done)), H', ⟨by have := HK1.out; first | omega | exact Nat.le_refl _⟩, ⟨by (with_reducible repeat (first | apply Kd.R_alloc | apply Kd.R_drewN | apply Kd.R_drew)); exact HO_4.out⟩, ⟨by (with_reducible repeat (first | apply Kd.R_alloc | apply Kd.R_drewN | apply Kd.R_drew)); exact HO_5.out⟩, ⟨by repeat (first | (with_reducible first | exact HB.out | apply below_alloc | apply pw_below_drewN | apply below_drew1) | exact HB.out)⟩⟩
      case rest =>
        clear HC2
        try clear c1
        try clear p2
        try clear c3
        try clear c3b0
        obtain ⟨kq, x16_1, rfl, HA, HJ1, HO_4, HO_5, HB⟩ := hcut
        cases kq with
        | zero => exact absurd HA.out (by simp [plaitinglaw15_Row.j1])
        | succ kj1 =>
          have H := HA.out
          clear HA
          simp only [plaitinglaw15_Row.j1] at H
          by_cases c4 : x16_1 = true
          · subst c4
            have H1 : (if 0 ≤ x6_1 then (if x6_1 < (l0.length : Int) then ((plaitinglaw15_within.f (rd l0 x6_1) 3).bind fun t116 => (if t116 = 2 then ((plaitinglaw15_within.f (wrap64 (Int.tdiv (rd l0 x6_1) 3)) 3).bind fun t119 => ((plaitinglaw15_within.f (wrap64 (Int.tdiv (rd l0 x6_1) 9)) 6).bind fun t121 => ((some (([(⟨decide (t121 > 0), (⟨t116, t119⟩ : S29)⟩ : S31)] : List (S31)) : List (S31))).bind fun y122 => (if x4_1.length + y122.length < 5864062014805 then ((some (([(⟨decide (t121 > 0), (⟨t116, t119⟩ : S29)⟩ : S44)] : List (S44)) : List (S44))).bind fun y128 => (if x5_1.length + y128.length < 5864062014805 then (plaitinglaw15_Row.l0 kj1 l0 (x4_1 ++ y122) (x5_1 ++ y128) (wrap64 (x6_1 + 1))) else (none))) else (none))))) else ((plaitinglaw15_within.f (wrap64 (Int.tdiv (rd l0 x6_1) 9)) 6).bind fun t135 => ((some (([(⟨decide (t135 > 0), (⟨t116, 0⟩ : S29)⟩ : S31)] : List (S31)) : List (S31))).bind fun y136 => (if x4_1.length + y136.length < 5864062014805 then ((some (([(⟨decide (t135 > 0), (⟨t116, 0⟩ : S29)⟩ : S44)] : List (S44)) : List (S44))).bind fun y142 => (if x5_1.length + y142.length < 5864062014805 then (plaitinglaw15_Row.l0 kj1 l0 (x4_1 ++ y136) (x5_1 ++ y142) (wrap64 (x6_1 + 1))) else (none))) else (none)))))) else (none)) else (none)) = some (r1, r2) := by rw [if_pos rfl] at H; exact H
            clear H
            have H := H1
            clear H1
            by_cases c5 : 0 ≤ x6_1
            · rw [if_pos c5] at H
              have c5b0 : decide (0 ≤ x6_1) = true := decide_eq_true c5
              clear c5
              by_cases c6 : x6_1 < (l0.length : Int)
              · rw [if_pos c6] at H
                have c6b0 : decide (x6_1 < (l0.length : Int)) = true := decide_eq_true c6
                clear c6
                replace H := Option.bind_eq_some_iff.mp H
                obtain ⟨t116, A70, H⟩ := H
                replace H : (if t116 = 2 then ((plaitinglaw15_within.f (wrap64 (Int.tdiv (rd l0 x6_1) 3)) 3).bind fun t119 => ((plaitinglaw15_within.f (wrap64 (Int.tdiv (rd l0 x6_1) 9)) 6).bind fun t121 => ((some (([(⟨decide (t121 > 0), (⟨t116, t119⟩ : S29)⟩ : S31)] : List (S31)) : List (S31))).bind fun y122 => (if x4_1.length + y122.length < 5864062014805 then ((some (([(⟨decide (t121 > 0), (⟨t116, t119⟩ : S29)⟩ : S44)] : List (S44)) : List (S44))).bind fun y128 => (if x5_1.length + y128.length < 5864062014805 then (plaitinglaw15_Row.l0 kj1 l0 (x4_1 ++ y122) (x5_1 ++ y128) (wrap64 (x6_1 + 1))) else (none))) else (none))))) else ((plaitinglaw15_within.f (wrap64 (Int.tdiv (rd l0 x6_1) 9)) 6).bind fun t135 => ((some (([(⟨decide (t135 > 0), (⟨t116, 0⟩ : S29)⟩ : S31)] : List (S31)) : List (S31))).bind fun y136 => (if x4_1.length + y136.length < 5864062014805 then ((some (([(⟨decide (t135 > 0), (⟨t116, 0⟩ : S29)⟩ : S44)] : List (S44)) : List (S44))).bind fun y142 => (if x5_1.length + y142.length < 5864062014805 then (plaitinglaw15_Row.l0 kj1 l0 (x4_1 ++ y136) (x5_1 ++ y142) (wrap64 (x6_1 + 1))) else (none))) else (none))))) = some (r1, r2) := H
                have A7 := Aside0.mk A70
                clear A70
                by_cases c8 : t116 = 2
                · rw [if_pos c8] at H
                  have c8b0 : (t116 == 2) = true := beq_iff_eq.mpr c8
                  have c8b1 : (t116 != 2) = false := bne_eq_false_iff_eq.mpr c8
                  clear c8
                  replace H := Option.bind_eq_some_iff.mp H
                  obtain ⟨t119, A90, H⟩ := H
                  replace H : ((plaitinglaw15_within.f (wrap64 (Int.tdiv (rd l0 x6_1) 9)) 6).bind fun t121 => ((some (([(⟨decide (t121 > 0), (⟨t116, t119⟩ : S29)⟩ : S31)] : List (S31)) : List (S31))).bind fun y122 => (if x4_1.length + y122.length < 5864062014805 then ((some (([(⟨decide (t121 > 0), (⟨t116, t119⟩ : S29)⟩ : S44)] : List (S44)) : List (S44))).bind fun y128 => (if x5_1.length + y128.length < 5864062014805 then (plaitinglaw15_Row.l0 kj1 l0 (x4_1 ++ y122) (x5_1 ++ y128) (wrap64 (x6_1 + 1))) else (none))) else (none)))) = some (r1, r2) := H
                  have A9 := Aside0.mk A90
                  clear A90
                  replace H := Option.bind_eq_some_iff.mp H
                  obtain ⟨t121, A100, H⟩ := H
                  replace H : ((some (([(⟨decide (t121 > 0), (⟨t116, t119⟩ : S29)⟩ : S31)] : List (S31)) : List (S31))).bind fun y122 => (if x4_1.length + y122.length < 5864062014805 then ((some (([(⟨decide (t121 > 0), (⟨t116, t119⟩ : S29)⟩ : S44)] : List (S44)) : List (S44))).bind fun y128 => (if x5_1.length + y128.length < 5864062014805 then (plaitinglaw15_Row.l0 kj1 l0 (x4_1 ++ y122) (x5_1 ++ y128) (wrap64 (x6_1 + 1))) else (none))) else (none))) = some (r1, r2) := H
                  have A10 := Aside0.mk A100
                  clear A100
                  obtain ⟨y122, hy122⟩ : ∃ y_ : List (S31), y_ = (([(⟨decide (t121 > 0), (⟨t116, t119⟩ : S29)⟩ : S31)] : List (S31))) := ⟨_, rfl⟩
                  replace H : (if x4_1.length + y122.length < 5864062014805 then ((some (([(⟨decide (t121 > 0), (⟨t116, t119⟩ : S29)⟩ : S44)] : List (S44)) : List (S44))).bind fun y128 => (if x5_1.length + y128.length < 5864062014805 then (plaitinglaw15_Row.l0 kj1 l0 (x4_1 ++ y122) (x5_1 ++ y128) (wrap64 (x6_1 + 1))) else (none))) else (none)) = some (r1, r2) := by first | (rw [hy122]; with_reducible exact H) | (have H2_ := (Option.bind_some _ _).symm.trans H; rw [hy122]; with_reducible exact H2_) | (have H2_ := (Option.bind_some _ _).symm.trans H; with_reducible exact H2_) | with_reducible exact H | (rw [hy122]; exact H) | exact H
                  have Ny122 := Aside0.mk hy122
                  clear hy122
                  by_cases c11 : x4_1.length + y122.length < 5864062014805
                  · rw [if_pos c11] at H
                    have LMc11 := Aside0.mk c11
                    clear c11
                    obtain ⟨y125, hy125⟩ : ∃ y_ : List (S31), y_ = (x4_1 ++ y122) := ⟨_, rfl⟩
                    replace H : ((some (([(⟨decide (t121 > 0), (⟨t116, t119⟩ : S29)⟩ : S44)] : List (S44)) : List (S44))).bind fun y128 => (if x5_1.length + y128.length < 5864062014805 then (plaitinglaw15_Row.l0 kj1 l0 y125 (x5_1 ++ y128) (wrap64 (x6_1 + 1))) else (none))) = some (r1, r2) := by first | (rw [hy125]; with_reducible exact H) | (have H2_ := (Option.bind_some _ _).symm.trans H; rw [hy125]; with_reducible exact H2_) | (have H2_ := (Option.bind_some _ _).symm.trans H; with_reducible exact H2_) | with_reducible exact H | (rw [hy125]; exact H) | exact H
                    have Ny125 := Aside0.mk hy125
                    clear hy125
                    obtain ⟨y128, hy128⟩ : ∃ y_ : List (S44), y_ = (([(⟨decide (t121 > 0), (⟨t116, t119⟩ : S29)⟩ : S44)] : List (S44))) := ⟨_, rfl⟩
                    replace H : (if x5_1.length + y128.length < 5864062014805 then (plaitinglaw15_Row.l0 kj1 l0 y125 (x5_1 ++ y128) (wrap64 (x6_1 + 1))) else (none)) = some (r1, r2) := by first | (rw [hy128]; with_reducible exact H) | (have H2_ := (Option.bind_some _ _).symm.trans H; rw [hy128]; with_reducible exact H2_) | (have H2_ := (Option.bind_some _ _).symm.trans H; with_reducible exact H2_) | with_reducible exact H | (rw [hy128]; exact H) | exact H
                    have Ny128 := Aside0.mk hy128
                    clear hy128
                    by_cases c12 : x5_1.length + y128.length < 5864062014805
                    · rw [if_pos c12] at H
                      have LMc12 := Aside0.mk c12
                      clear c12
                      obtain ⟨y131, hy131⟩ : ∃ y_ : List (S44), y_ = (x5_1 ++ y128) := ⟨_, rfl⟩
                      replace H : (plaitinglaw15_Row.l0 kj1 l0 y125 y131 (wrap64 (x6_1 + 1))) = some (r1, r2) := by first | (rw [hy131]; with_reducible exact H) | (have H2_ := (Option.bind_some _ _).symm.trans H; rw [hy131]; with_reducible exact H2_) | (have H2_ := (Option.bind_some _ _).symm.trans H; with_reducible exact H2_) | with_reducible exact H | (rw [hy131]; exact H) | exact H
                      have Ny131 := Aside0.mk hy131
                      clear hy131
                      have H' := Aside0.mk H
                      clear H
                      have p115 : 0 ≤ (x6_1 : Int) := of_decide_eq_true (by first | (with_reducible assumption) | assumption)
                      have q115 : x6_1 < (l0.length : Int) := of_decide_eq_true (by first | (with_reducible assumption) | assumption)
                      obtain ⟨ad115, e115, hx115_0⟩ := Kd.at_int HR0.out x6_1 p115 q115
                      cases e115
                      replace hx115_0 := (HB.out.cell (World.block_lt_of_cell? w _ hx115_0)).trans hx115_0
                      replace p115 := eq_true p115
                      replace q115 := eq_true q115
                      try go_wp2_with (first | ((with_reducible refine gate_callee (f := 11) rfl ?_); refine goesL_ (some 23) rfl rfl Try.func11 (by kernel_rfl) rfl #[.int .i64 (rd l0 x6_1), .int .i64 3] rfl (by (try simp only [List.map_toArray, List.map_cons, List.map_nil]); first | done | rfl | (simp only [List.length_drop, List.length_take]; rfl)) ?_; (with_reducible refine (plaitinglaw15_within.calls (rd l0 x6_1) 3 t116 _ A7.out).mono ?_); rintro e w' ⟨rfl, ⟨nd, rfl⟩⟩; refine ⟨_, rfl, ?_⟩; (try (rw [drewN_self wc]; generalize hq_ : World.drewN wc _ = wc; have n0_ : Aside0 (Kd.R k31 31 wc w.heap.size (fun _ => True) u4 x4_1) := ⟨by rw [← hq_]; exact (by (with_reducible repeat (first | apply Kd.R_alloc | apply Kd.R_drewN | apply Kd.R_drew)); exact HO_4.out)⟩; have n1_ : Aside0 (Kd.R k44 44 wc w.heap.size (fun _ => True) u5 x5_1) := ⟨by rw [← hq_]; exact (by (with_reducible repeat (first | apply Kd.R_alloc | apply Kd.R_drewN | apply Kd.R_drew)); exact HO_5.out)⟩; have n2_ : Aside0 (Below w.heap.size w wc) := ⟨by rw [← hq_]; exact (by repeat (first | (with_reducible first | exact HB.out | apply below_alloc | apply pw_below_drewN | apply below_drew1) | exact HB.out))⟩; clear HO_4 HO_5 HB hq_; have HO_4 := n0_; have HO_5 := n1_; have HB := n2_; clear n0_ n1_ n2_))) | ((with_reducible refine gate_dst (N := 7) rfl ?_); refine box_event ?hg (N := 7) ?hd (cs := #[.int .i64 0, .int .i64 0]) (t := 29) ?hr ?_; (case hd => rfl); (case hg => rfl); (case hr => first | (go_simp; done) | (go_simp; rfl)); intro gb117 hg w13 hbox hb; have n0_ := Aside0.mk (Kd.R_below (by (with_reducible repeat (first | apply Kd.R_alloc | apply Kd.R_drewN | apply Kd.R_drew)); exact HO_4.out) hb); have n1_ := Aside0.mk (Kd.R_below (by (with_reducible repeat (first | apply Kd.R_alloc | apply Kd.R_drewN | apply Kd.R_drew)); exact HO_5.out) hb); have n2_ := Aside0.mk (below_step (by repeat (first | (with_reducible first | exact HB.out | apply below_alloc | apply pw_below_drewN | apply below_drew1) | exact HB.out)) hb); have n3_ := Aside0.mk (hbox); have n4_ := Aside0.mk ((by rw [hg]; exact (below_size (by repeat (first | (with_reducible first | exact HB.out | apply below_alloc | apply pw_below_drewN | apply below_drew1) | exact HB.out))) : w.heap.size ≤ gb117)); have n5_ := Aside0.mk ((by rw [hg]; exact (below_size (by repeat (first | (with_reducible first | exact HB.out | apply below_alloc | apply pw_below_drewN | apply below_drew1) | exact HB.out))) : w.heap.size ≤ gb117)); clear HO_4; clear HO_5; clear HB; have HO_4 := n0_; have HO_5 := n1_; have HB := n2_; have BK117 := n3_; have GW117 := n4_; have GE117 := n5_; clear n0_ n1_ n2_ n3_ n4_ n5_; clear hb hbox hg; have hcz14_0 : w13.cell? ⟨gb117, 0, none⟩ = some (.int .i64 0) := (blk_cell BK117.out 0).trans rfl; have hcz14_1 : w13.cell? ⟨gb117, 1, none⟩ = some (.int .i64 0) := (blk_cell BK117.out 1).trans rfl; have hfz14_0 := blk_frozen BK117.out 0; have hfz14_1 := blk_frozen BK117.out 1; have p118 : 0 ≤ (x6_1 : Int) := of_decide_eq_true (by first | (with_reducible assumption) | assumption); have q118 : x6_1 < (l0.length : Int) := of_decide_eq_true (by first | (with_reducible assumption) | assumption); obtain ⟨ad118, e118, hx118_0⟩ := Kd.at_int HR0.out x6_1 p118 q118; obtain rfl : ad115 = ad118 := (by injection e118); have hn118_0 : ad115.block ≠ gb117 := Nat.ne_of_lt (Nat.lt_of_lt_of_le (by have := World.block_lt_of_cell? _ _ hx118_0; first | rwa [add_block] at this | exact this) GW117.out); have hn118_1 : ad115.block ≠ gb117 := Nat.ne_of_lt (Nat.lt_of_lt_of_le (by have := World.block_lt_of_cell? _ _ hx118_0; first | rwa [add_block] at this | exact this) GW117.out); replace hx118_0 := (HB.out.cell (World.block_lt_of_cell? w _ hx118_0)).trans hx118_0; replace hx118_0 := (cell_far (p := ⟨gb117, 0, none⟩) (by first | (rw [add_block]; exact hn118_0) | (show (Addr.add _ _).block ≠ _; rw [add_block]; exact hn118_0) | exact hn118_0) (.int .i64 t116)).trans hx118_0; replace hx118_0 := (cell_far (p := ⟨gb117, 1, none⟩) (by first | (rw [add_block]; exact hn118_1) | (show (Addr.add _ _).block ≠ _; rw [add_block]; exact hn118_1) | exact hn118_1) (.int .i64 0)).trans hx118_0; clear hn118_0; clear hn118_1; replace p118 := eq_true p118; replace q118 := eq_true q118) | ((with_reducible refine gate_callee (f := 11) rfl ?_); refine goesL_ (some 33) rfl rfl Try.func11 (by kernel_rfl) rfl #[.int .i64 (wrap64 (Int.tdiv (rd l0 x6_1) 3)), .int .i64 3] rfl (by (try simp only [List.map_toArray, List.map_cons, List.map_nil]); first | done | rfl | (simp only [List.length_drop, List.length_take]; rfl)) ?_; (with_reducible refine (plaitinglaw15_within.calls (wrap64 (Int.tdiv (rd l0 x6_1) 3)) 3 t119 _ A9.out).mono ?_); rintro e w' ⟨rfl, ⟨nd, rfl⟩⟩; refine ⟨_, rfl, ?_⟩; have p120 : 0 ≤ (x6_1 : Int) := of_decide_eq_true (by first | (with_reducible assumption) | assumption); have q120 : x6_1 < (l0.length : Int) := of_decide_eq_true (by first | (with_reducible assumption) | assumption); obtain ⟨ad120, e120, hx120_0⟩ := Kd.at_int HR0.out x6_1 p120 q120; obtain rfl : ad115 = ad120 := (by injection e120); have hn120_0 : ad115.block ≠ gb117 := Nat.ne_of_lt (Nat.lt_of_lt_of_le (by have := World.block_lt_of_cell? _ _ hx120_0; first | rwa [add_block] at this | exact this) GW117.out); have hn120_1 : ad115.block ≠ gb117 := Nat.ne_of_lt (Nat.lt_of_lt_of_le (by have := World.block_lt_of_cell? _ _ hx120_0; first | rwa [add_block] at this | exact this) GW117.out); have hn120_2 : ad115.block ≠ gb117 := Nat.ne_of_lt (Nat.lt_of_lt_of_le (by have := World.block_lt_of_cell? _ _ hx120_0; first | rwa [add_block] at this | exact this) GW117.out); replace hx120_0 := (HB.out.cell (World.block_lt_of_cell? w _ hx120_0)).trans hx120_0; replace hx120_0 := (cell_far (p := ⟨gb117, 0, none⟩) (by first | (rw [add_block]; exact hn120_0) | (show (Addr.add _ _).block ≠ _; rw [add_block]; exact hn120_0) | exact hn120_0) (.int .i64 t116)).trans hx120_0; replace hx120_0 := (cell_far (p := ⟨gb117, 1, none⟩) (by first | (rw [add_block]; exact hn120_1) | (show (Addr.add _ _).block ≠ _; rw [add_block]; exact hn120_1) | exact hn120_1) (.int .i64 0)).trans hx120_0; replace hx120_0 := (cell_far (p := ⟨gb117, 1, none⟩) (by first | (rw [add_block]; exact hn120_2) | (show (Addr.add _ _).block ≠ _; rw [add_block]; exact hn120_2) | exact hn120_2) (.int .i64 t119)).trans hx120_0; clear hn120_0; clear hn120_1; clear hn120_2; replace p120 := eq_true p120; replace q120 := eq_true q120) | ((with_reducible refine gate_callee (f := 11) rfl ?_); refine goesL_ (some 40) rfl rfl Try.func11 (by kernel_rfl) rfl #[.int .i64 (wrap64 (Int.tdiv (rd l0 x6_1) 9)), .int .i64 6] rfl (by (try simp only [List.map_toArray, List.map_cons, List.map_nil]); first | done | rfl | (simp only [List.length_drop, List.length_take]; rfl)) ?_; (with_reducible refine (plaitinglaw15_within.calls (wrap64 (Int.tdiv (rd l0 x6_1) 9)) 6 t121 _ A10.out).mono ?_); rintro e w' ⟨rfl, ⟨nd, rfl⟩⟩; refine ⟨_, rfl, ?_⟩; obtain ⟨Ao15, co15, eo15⟩ := Kd.R_slice HO_4.out; subst eo15; obtain ⟨Ao16, co16, eo16⟩ := Kd.R_slice HO_5.out; subst eo16))
                      have n0_ : Aside0 (Kd.R k31 31 (((w13.setCell ⟨gb117, 0, none⟩ (.int .i64 t116)).setCell ⟨gb117, 1, none⟩ (.int .i64 0)).setCell ⟨gb117, 1, none⟩ (.int .i64 t119)) w.heap.size (fun _ => True) (.slice Ao15 x4_1.length co15) x4_1) := ⟨by (with_reducible repeat (first | apply Kd.R_alloc | apply Kd.R_drewN | apply Kd.R_drew)); exact Kd.R_mono (Kd.R_far (p := ⟨gb117, 1, none⟩) (Kd.R_far (p := ⟨gb117, 1, none⟩) (Kd.R_far (p := ⟨gb117, 0, none⟩) (Kd.R_types HO_4.out BK117.out (by decide)) (fun _ hk => hk.2) (.int .i64 t116)) (fun _ hk => hk.2) (.int .i64 0)) (fun _ hk => hk.2) (.int .i64 t119)) (fun _ hk => trivial)⟩
                      have n1_ : Aside0 (Kd.R k44 44 (((w13.setCell ⟨gb117, 0, none⟩ (.int .i64 t116)).setCell ⟨gb117, 1, none⟩ (.int .i64 0)).setCell ⟨gb117, 1, none⟩ (.int .i64 t119)) w.heap.size (fun _ => True) (.slice Ao16 x5_1.length co16) x5_1) := ⟨by (with_reducible repeat (first | apply Kd.R_alloc | apply Kd.R_drewN | apply Kd.R_drew)); exact Kd.R_mono (Kd.R_far (p := ⟨gb117, 1, none⟩) (Kd.R_far (p := ⟨gb117, 1, none⟩) (Kd.R_far (p := ⟨gb117, 0, none⟩) (Kd.R_types HO_5.out BK117.out (by decide)) (fun _ hk => hk.2) (.int .i64 t116)) (fun _ hk => hk.2) (.int .i64 0)) (fun _ hk => hk.2) (.int .i64 t119)) (fun _ hk => trivial)⟩
                      have n2_ : Aside0 ((((w13.setCell ⟨gb117, 0, none⟩ (.int .i64 t116)).setCell ⟨gb117, 1, none⟩ (.int .i64 0)).setCell ⟨gb117, 1, none⟩ (.int .i64 t119)).heap[gb117]? = some (.cells #[.int .i64 t116, .int .i64 t119] 29 (0, 0))) := ⟨by (with_reducible repeat (first | refine blk_drewN ?_ _ | refine blk_drew ?_ | refine blk_alloc ?_ _)); refine blk_put (cs := #[.int .i64 t116, .int .i64 0]) ?_ 1 _ rfl; (with_reducible repeat (first | refine blk_drewN ?_ _ | refine blk_drew ?_ | refine blk_alloc ?_ _)); refine blk_put (cs := #[.int .i64 t116, .int .i64 0]) ?_ 1 _ rfl; (with_reducible repeat (first | refine blk_drewN ?_ _ | refine blk_drew ?_ | refine blk_alloc ?_ _)); refine blk_put (cs := #[.int .i64 0, .int .i64 0]) ?_ 0 _ rfl; (with_reducible repeat (first | refine blk_drewN ?_ _ | refine blk_drew ?_ | refine blk_alloc ?_ _)); exact BK117.out⟩
                      have n3_ : Aside0 (Below w.heap.size w (((w13.setCell ⟨gb117, 0, none⟩ (.int .i64 t116)).setCell ⟨gb117, 1, none⟩ (.int .i64 0)).setCell ⟨gb117, 1, none⟩ (.int .i64 t119))) := ⟨by repeat (first | (with_reducible first | exact HB.out | apply below_alloc | apply pw_below_drewN | apply below_drew1 | refine below_set ?_ GE117.out) | exact HB.out)⟩
                      (try clear HO_4)
                      (try clear HO_5)
                      (try clear BK117)
                      (try clear HB)
                      generalize (((w13.setCell ⟨gb117, 0, none⟩ (.int .i64 t116)).setCell ⟨gb117, 1, none⟩ (.int .i64 0)).setCell ⟨gb117, 1, none⟩ (.int .i64 t119)) = w17 at n0_ n1_ n2_ n3_ ⊢
                      have HO_4 := n0_
                      have HO_5 := n1_
                      have BK117 := n2_
                      have HB := n3_
                      clear n0_ n1_ n2_ n3_
                      (try (rw [drewN_self w17]; generalize hq_ : World.drewN w17 _ = w17; have n0_ : Aside0 (Kd.R k31 31 w17 w.heap.size (fun _ => True) (.slice Ao15 x4_1.length co15) x4_1) := ⟨by rw [← hq_]; exact (by (with_reducible repeat (first | apply Kd.R_alloc | apply Kd.R_drewN | apply Kd.R_drew)); exact HO_4.out)⟩; have n1_ : Aside0 (Kd.R k44 44 w17 w.heap.size (fun _ => True) (.slice Ao16 x5_1.length co16) x5_1) := ⟨by rw [← hq_]; exact (by (with_reducible repeat (first | apply Kd.R_alloc | apply Kd.R_drewN | apply Kd.R_drew)); exact HO_5.out)⟩; have n2_ : Aside0 (w17.heap[gb117]? = some (.cells #[.int .i64 t116, .int .i64 t119] 29 (0, 0))) := ⟨by rw [← hq_]; exact (by (with_reducible repeat (first | refine blk_drewN ?_ _ | refine blk_drew ?_ | refine blk_alloc ?_ _)); exact BK117.out)⟩; have n3_ : Aside0 (Below w.heap.size w w17) := ⟨by rw [← hq_]; exact (by repeat (first | (with_reducible first | exact HB.out | apply below_alloc | apply pw_below_drewN | apply below_drew1 | refine below_set ?_ GE117.out) | exact HB.out))⟩; clear HO_4 HO_5 BK117 HB hq_; have HO_4 := n0_; have HO_5 := n1_; have BK117 := n2_; have HB := n3_; clear n0_ n1_ n2_ n3_))
                      have n0_ := Aside0.mk (Kd.R_drew HO_4.out)
                      have n1_ := Aside0.mk (Kd.R_drew HO_5.out)
                      have n2_ := Aside0.mk (blk_drew BK117.out)
                      have n3_ := Aside0.mk (below_drew1 HB.out)
                      clear HO_4
                      clear HO_5
                      clear BK117
                      clear HB
                      have HO_4 := n0_
                      have HO_5 := n1_
                      have BK117 := n2_
                      have HB := n3_
                      clear n0_ n1_ n2_ n3_
                      refine start_ (n := 14) (S := fun w' => w'.cell? ⟨gb117, 0, none⟩ = some (.int .i64 t116) ∧ w'.cell? ⟨gb117, 1, none⟩ = some (.int .i64 t119)) (ds := []) #[false, false, false, false, false, false, false, false, false, false, false, false, false, false] (by kernel_rfl) rfl rfl ⟨(blk_cell BK117.out 0).trans rfl, (blk_cell BK117.out 1).trans rfl⟩ (fun hHeld => ?_); refine with_tabW plaitinglaw15_Row.tab10 plaitinglaw15_Row.bits10 (fun HT_ HW_ => ?_)
                      generalize w17.drew = w18 at HO_4 HO_5 BK117 HB hHeld ⊢
                      refine pure_ (i := 0) (N := some 42) (v := ?_) (a' := ?_) #[true, false, false, false, false, false, false, false, false, false, false, false, false, false] rfl rfl (any_of HT_.out (by kernel_rfl)) (fun _ _ _ h => h) (Or.inl ⟨by rfl, ?_⟩) ?_ ?_
                      rotate_left
                      · intro w'
                        go_simp
                        with_reducible rfl
                      rotate_left
                      · simp only [Act.put, List.setIfInBounds_toArray, List.set_cons_zero, List.set_cons_succ, i64_w, i32_w]
                        rfl
                      refine pure_ (i := 1) (N := some 43) (v := ?_) (a' := ?_) #[true, true, false, false, false, false, false, false, false, false, false, false, false, false] rfl rfl (any_of HT_.out (by kernel_rfl)) (fun _ _ _ h => h) (Or.inl ⟨by rfl, ?_⟩) ?_ ?_
                      rotate_left
                      · intro w'
                        go_simp
                        with_reducible rfl
                      rotate_left
                      · simp only [Act.put, List.setIfInBounds_toArray, List.set_cons_zero, List.set_cons_succ, i64_w, i32_w]
                        rfl
                      refine pure_ (i := 6) (N := some 48) (v := ?_) (a' := ?_) #[true, true, false, false, false, false, true, false, false, false, false, false, false, false] rfl rfl (any_of HT_.out (by kernel_rfl)) (fun _ _ _ h => h) (Or.inl ⟨by rfl, ?_⟩) ?_ ?_
                      rotate_left
                      · intro w'
                        go_simp
                        with_reducible rfl
                      rotate_left
                      · simp only [Act.put, List.setIfInBounds_toArray, List.set_cons_zero, List.set_cons_succ, i64_w, i32_w]
                        rfl
                      refine pure_ (i := 7) (N := some 49) (v := ?_) (a' := ?_) #[true, true, false, false, false, false, true, true, false, false, false, false, false, false] rfl rfl (any_of HT_.out (by kernel_rfl)) (fun _ _ _ h => h) (Or.inl ⟨by rfl, ?_⟩) ?_ ?_
                      rotate_left
                      · intro w'
                        go_simp
                        with_reducible rfl
                      rotate_left
                      · simp only [Act.put, List.setIfInBounds_toArray, List.set_cons_zero, List.set_cons_succ, i64_w, i32_w]
                        rfl
                      refine take_ (i := 2) (N := some 44) (v := ?_) (a' := ?_) #[true, true, true, false, false, false, true, true, false, false, false, false, false, false] rfl rfl (take_ofW HT_.out HW_.out (by kernel_rfl)) (fun _ _ _ h => h) (Or.inl ⟨by rfl, ?_⟩) hHeld ?_ ?_
                      rotate_left
                      · rintro w' ⟨s0, s1⟩
                        go_simp
                        with_reducible rfl
                      rotate_left
                      · simp only [Act.put, List.setIfInBounds_toArray, List.set_cons_zero, List.set_cons_succ, i64_w, i32_w]
                        rfl
                      refine pure_ (i := 3) (N := some 45) (v := ?_) (a' := ?_) #[true, true, true, true, false, false, true, true, false, false, false, false, false, false] rfl rfl (any_of HT_.out (by kernel_rfl)) (fun _ _ _ h => h) (Or.inl ⟨by rfl, ?_⟩) ?_ ?_
                      rotate_left
                      · intro w'
                        go_simp
                        with_reducible rfl
                      rotate_left
                      · simp only [Act.put, List.setIfInBounds_toArray, List.set_cons_zero, List.set_cons_succ, i64_w, i32_w]
                        rfl
                      refine take_ (i := 8) (N := some 50) (v := ?_) (a' := ?_) #[true, true, true, true, false, false, true, true, true, false, false, false, false, false] rfl rfl (take_ofW HT_.out HW_.out (by kernel_rfl)) (fun _ _ _ h => h) (Or.inl ⟨by rfl, ?_⟩) hHeld ?_ ?_
                      rotate_left
                      · rintro w' ⟨s0, s1⟩
                        go_simp
                        with_reducible rfl
                      rotate_left
                      · simp only [Act.put, List.setIfInBounds_toArray, List.set_cons_zero, List.set_cons_succ, i64_w, i32_w]
                        rfl
                      refine pure_ (i := 9) (N := some 51) (v := ?_) (a' := ?_) #[true, true, true, true, false, false, true, true, true, true, false, false, false, false] rfl rfl (any_of HT_.out (by kernel_rfl)) (fun _ _ _ h => h) (Or.inl ⟨by rfl, ?_⟩) ?_ ?_
                      rotate_left
                      · intro w'
                        go_simp
                        with_reducible rfl
                      rotate_left
                      · simp only [Act.put, List.setIfInBounds_toArray, List.set_cons_zero, List.set_cons_succ, i64_w, i32_w]
                        rfl
                      refine join_ (σ := Value × Value × Value) 3 #[true, true, true, true, true, true, true, true, true, true, true, false, false, false] (fun s_ => [(46, s_.1), (47, s_.2.1), (52, s_.2.2)]) (fun s_ w' => (w'.cell? ⟨gb117, 0, none⟩ = some (.int .i64 t116) ∧ w'.cell? ⟨gb117, 1, none⟩ = some (.int .i64 t119)) ∧ (Kd.R k31 31 w' w.heap.size (fun k_ => some k_ ≠ (s_.2.1 : Value).ownBlock) s_.1 y122) ∧ (Kd.R k31 31 w' w.heap.size (fun k_ => some k_ ≠ (s_.1 : Value).ownBlock) s_.2.1 y125) ∧ (Kd.R k44 44 w' w.heap.size (fun k_ => some k_ ≠ (.slice Ao16 x5_1.length co16 : Value).ownBlock) s_.2.2 y128) ∧ (Kd.R k44 44 w' w.heap.size (fun k_ => some k_ ≠ (s_.2.2 : Value).ownBlock) (.slice Ao16 x5_1.length co16) x5_1) ∧ (w'.heap[gb117]? = some (.cells #[.int .i64 t116, .int .i64 t119] 29 (0, 0))) ∧ (Below w.heap.size w w')) ?_ ?_
                      rotate_left
                      · intro hCont
                        refine two_ (i := 4) (j := 10) (Ni := some 46) (Nj := some 52) #[true, true, true, true, true, false, true, true, true, true, false, false, false, false] #[true, true, true, true, false, false, true, true, true, true, true, false, false, false] rfl rfl rfl rfl (two_of HT_.out (by kernel_rfl)) (by decide) (by decide) (fun K hK => ?_) (fun K hK => ?_)
                        · skip
                          refine Kd.R_lit_step k31 _ 31 ?hg (N := 46) ?hd (xs := ([(⟨decide (t121 > 0), (⟨t116, t119⟩ : S29)⟩ : S31)] : List (S31))) (inner := [.bool (decide (t121 > 0)), .int .i64 t116, .int .i64 t119]) (ok := fun _ => True) (okp := fun _ => True) ?hr ?hp (fun _ hk => hk) trivial (Below.refl _ _) (Nat.le_refl _) (by simp) ?_; (case hd => rfl); (case hg => rfl); (case hr => first | (go_simp; done) | (go_simp; rfl)); (case hp => exact (Reps.c3 (show Kd.M k31 _ _ _ (⟨decide (t121 > 0), (⟨t116, t119⟩ : S29)⟩ : S31) [.bool (decide (t121 > 0)), .int .i64 t116, .int .i64 t119] from (k31_mkM _ _ _ (⟨decide (t121 > 0), (⟨t116, t119⟩ : S29)⟩ : S31) )) (Reps.none _ _)))
                          intro v123 w19 ho20 hb hg_ hnew_
                          clear hg_ hnew_
                          (first | rw [← Ny122.out] at ho20 | (simp only [Int.reduceToNat] at ho20; rw [← Ny122.out] at ho20))
                          have n0_ := Aside0.mk (Kd.R_elder' (by (with_reducible repeat (first | apply Kd.R_alloc | apply Kd.R_drewN | apply Kd.R_drew)); exact HO_4.out) (Kd.R_base ho20) hb)
                          have n1_ := Aside0.mk (Kd.R_below (by (with_reducible repeat (first | apply Kd.R_alloc | apply Kd.R_drewN | apply Kd.R_drew)); exact HO_5.out) hb)
                          have n2_ := Aside0.mk (Kd.R_lower (Kd.R_new' ho20 (Kd.R_lt (by (with_reducible repeat (first | apply Kd.R_alloc | apply Kd.R_drewN | apply Kd.R_drew)); exact HO_4.out))) (below_size (by repeat (first | (with_reducible first | exact HB.out | apply below_alloc | apply pw_below_drewN | apply below_drew1 | refine below_set ?_ GE117.out) | exact HB.out))))
                          have n3_ := Aside0.mk (blk_below (g := gb117) (o := .cells #[.int .i64 t116, .int .i64 t119] 29 (0, 0)) (by (with_reducible repeat (first | refine blk_drewN ?_ _ | refine blk_drew ?_ | refine blk_alloc ?_ _)); exact BK117.out) hb)
                          have n4_ := Aside0.mk (below_step (by repeat (first | (with_reducible first | exact HB.out | apply below_alloc | apply pw_below_drewN | apply below_drew1 | refine below_set ?_ GE117.out) | exact HB.out)) hb)
                          clear HO_4
                          clear HO_5
                          clear BK117
                          clear HB
                          have HO_4 := n0_
                          have HO_5 := n1_
                          have HO124 := n2_
                          have BK117 := n3_
                          have HB := n4_
                          clear n0_ n1_ n2_ n3_ n4_
                          clear hb ho20
                          obtain ⟨Ao22, co22, eo22⟩ := Kd.R_slice HO124.out
                          (first | subst eo22 | (injection eo22 with f1_ f2_ f3_; have f4_ := f1_.symm; have f5_ := f3_.symm; clear f1_ f2_ f3_; subst f4_; subst f5_))
                          refine hK.out _ _ ⟨(blk_cell BK117.out 0).trans rfl, (blk_cell BK117.out 1).trans rfl⟩ (fun hHeld => ?_)
                          clear hK K
                          refine norm_ (a' := ?_) ?_ ?_
                          rotate_left
                          · show Act.put _ (some 46) _ = _
                            simp only [Act.put, List.setIfInBounds_toArray, List.set_cons_zero, List.set_cons_succ, i64_w, i32_w]
                            rfl
                          refine two_ (i := 5) (j := 10) (Ni := some 47) (Nj := some 52) #[true, true, true, true, true, true, true, true, true, true, false, false, false, false] #[true, true, true, true, true, false, true, true, true, true, true, false, false, false] rfl rfl rfl rfl (two_of HT_.out (by kernel_rfl)) (by decide) (by decide) (fun K hK => ?_) (fun K hK => ?_)
                          · skip
                            refine Kd.R_append_rows_step k31 (w0 := w) w.heap.size (by rfl) (.tmp 42) (.tmp 46) 24 31 (.agg #[(.bool false), (.int .i64 0), (.int .i64 0)]) 24 rfl Try.underlying24 info31 rfl (by decide) (by omega) (.slice Ao15 x4_1.length co15) x4_1 y122 _ _ _ (fun k_ => some k_ ≠ (.slice Ao22 y122.length co22 : Value).ownBlock) (fun _ => False) rfl rfl ?aO ?aR (fun _ _ h => h) (fun _ h => h.elim) ?aF ?aB ?aS ?aL ?_
                            (case aR => repeat (first | exact (Kd.R_reads' HO124.out).2.2 | (with_reducible refine Kd.C_alloc ?_ _) | (with_reducible refine Kd.C_drewN ?_ _) | (with_reducible refine Kd.C_drew ?_)))
                            (case aB => exact (by repeat (first | (with_reducible first | exact HB.out | apply below_alloc | apply pw_below_drewN | apply below_drew1 | refine below_set ?_ GE117.out) | exact HB.out)))
                            (case aF => exact (fun k_ hk => Kd.fresh' (Kd.R_lt (by (with_reducible repeat (first | apply Kd.R_alloc | apply Kd.R_drewN | apply Kd.R_drew)); exact HO124.out)) k_ hk))
                            (case aO => exact (by (with_reducible repeat (first | apply Kd.R_alloc | apply Kd.R_drewN | apply Kd.R_drew)); exact Kd.R_mono HO_4.out (fun _ hk => hk.2)))
                            (case aS => exact (below_size (by repeat (first | (with_reducible first | exact HB.out | apply below_alloc | apply pw_below_drewN | apply below_drew1 | refine below_set ?_ GE117.out) | exact HB.out))))
                            (case aL => have := LMc11.out; omega)
                            intro v126 w21 ho hb hg hat
                            rw [← Ny125.out] at ho
                            have n0_ := Aside0.mk (Kd.R_over' (by (with_reducible repeat (first | apply Kd.R_alloc | apply Kd.R_drewN | apply Kd.R_drew)); exact HO_5.out) (Kd.R_typed (by (with_reducible repeat (first | apply Kd.R_alloc | apply Kd.R_drewN | apply Kd.R_drew)); exact HO_4.out)) (by decide) hg)
                            have n1_ := Aside0.mk (blk_grown (g := gb117) (o := .cells #[.int .i64 t116, .int .i64 t119] 29 (0, 0)) (by (with_reducible repeat (first | refine blk_drewN ?_ _ | refine blk_drew ?_ | refine blk_alloc ?_ _)); exact BK117.out) hg (Kd.R_ne HO_4.out BK117.out (by decide)))
                            have n2_ := Aside0.mk (Kd.R_after (ok := (fun _ => True)) (by (with_reducible repeat (first | apply Kd.R_alloc | apply Kd.R_drewN | apply Kd.R_drew)); exact HO124.out) hg hat)
                            have n3_ := Aside0.mk (hb)
                            have n4_ := Aside0.mk (ho)
                            clear HO_5
                            clear BK117
                            clear HO124
                            clear HB
                            clear HO_4
                            have HO_5 := n0_
                            have BK117 := n1_
                            have HO124 := n2_
                            have HB := n3_
                            have HO127 := n4_
                            clear n0_ n1_ n2_ n3_ n4_
                            clear ho hb hg hat
                            refine hK.out _ _ ⟨(blk_cell BK117.out 0).trans rfl, (blk_cell BK117.out 1).trans rfl⟩ (fun hHeld => ?_)
                            clear hK K
                            refine norm_ (a' := ?_) ?_ ?_
                            rotate_left
                            · show Act.put _ (some 47) _ = _
                              simp only [Act.put, List.setIfInBounds_toArray, List.set_cons_zero, List.set_cons_succ, i64_w, i32_w]
                              rfl
                            refine one_ (i := 10) (N := some 52) #[true, true, true, true, true, true, true, true, true, true, true, false, false, false] rfl rfl (one_of HT_.out (by kernel_rfl)) (by decide) (fun K hK => ?_)
                            refine Kd.R_lit_step k44 _ 44 ?hg (N := 52) ?hd (xs := ([(⟨decide (t121 > 0), (⟨t116, t119⟩ : S29)⟩ : S44)] : List (S44))) (inner := [.bool (decide (t121 > 0)), .int .i64 t116, .int .i64 t119]) (ok := fun _ => True) (okp := fun _ => True) ?hr ?hp (fun _ hk => hk) trivial (Below.refl _ _) (Nat.le_refl _) (by simp) ?_; (case hd => rfl); (case hg => rfl); (case hr => first | (go_simp; done) | (go_simp; rfl)); (case hp => exact (Reps.c3 (show Kd.M k44 _ _ _ (⟨decide (t121 > 0), (⟨t116, t119⟩ : S29)⟩ : S44) [.bool (decide (t121 > 0)), .int .i64 t116, .int .i64 t119] from (k44_mkM _ _ _ (⟨decide (t121 > 0), (⟨t116, t119⟩ : S29)⟩ : S44) )) (Reps.none _ _)))
                            intro v129 w23 ho24 hb hg_ hnew_
                            clear hg_ hnew_
                            (first | rw [← Ny128.out] at ho24 | (simp only [Int.reduceToNat] at ho24; rw [← Ny128.out] at ho24))
                            have n0_ := Aside0.mk (Kd.R_elder' (by (with_reducible repeat (first | apply Kd.R_alloc | apply Kd.R_drewN | apply Kd.R_drew)); exact HO_5.out) (Kd.R_base ho24) hb)
                            have n1_ := Aside0.mk (Kd.R_below (by (with_reducible repeat (first | apply Kd.R_alloc | apply Kd.R_drewN | apply Kd.R_drew)); exact HO124.out) hb)
                            have n2_ := Aside0.mk (Kd.R_below (by (with_reducible repeat (first | apply Kd.R_alloc | apply Kd.R_drewN | apply Kd.R_drew)); exact HO127.out) hb)
                            have n3_ := Aside0.mk (Kd.R_lower (Kd.R_new' ho24 (Kd.R_lt (by (with_reducible repeat (first | apply Kd.R_alloc | apply Kd.R_drewN | apply Kd.R_drew)); exact HO_5.out))) (below_size (by repeat (first | (with_reducible first | exact HB.out | apply below_alloc | apply pw_below_drewN | apply below_drew1 | refine below_set ?_ GE117.out) | exact HB.out))))
                            have n4_ := Aside0.mk (blk_below (g := gb117) (o := .cells #[.int .i64 t116, .int .i64 t119] 29 (0, 0)) (by (with_reducible repeat (first | refine blk_drewN ?_ _ | refine blk_drew ?_ | refine blk_alloc ?_ _)); exact BK117.out) hb)
                            have n5_ := Aside0.mk (below_step (by repeat (first | (with_reducible first | exact HB.out | apply below_alloc | apply pw_below_drewN | apply below_drew1 | refine below_set ?_ GE117.out) | exact HB.out)) hb)
                            clear HO_5
                            clear HO124
                            clear HO127
                            clear BK117
                            clear HB
                            have HO_5 := n0_
                            have HO124 := n1_
                            have HO127 := n2_
                            have HO130 := n3_
                            have BK117 := n4_
                            have HB := n5_
                            clear n0_ n1_ n2_ n3_ n4_ n5_
                            clear hb ho24
                            refine hK.out _ _ ⟨(blk_cell BK117.out 0).trans rfl, (blk_cell BK117.out 1).trans rfl⟩ (fun hHeld => ?_)
                            clear hK K
                            refine norm_ (a' := ?_) ?_ ?_
                            rotate_left
                            · show Act.put _ (some 52) _ = _
                              simp only [Act.put, List.setIfInBounds_toArray, List.set_cons_zero, List.set_cons_succ, i64_w, i32_w]
                              rfl
                            exact norm_ (by simp only [putAll, Act.put, List.setIfInBounds_toArray, List.set_cons_zero, List.set_cons_succ]) (hCont (.slice Ao22 y122.length co22, v126, v129) _ ⟨hHeld, (by (with_reducible repeat (first | apply Kd.R_alloc | apply Kd.R_drewN | apply Kd.R_drew)); exact Kd.R_mono HO124.out (fun _ hk => hk.2)), (by (with_reducible repeat (first | apply Kd.R_alloc | apply Kd.R_drewN | apply Kd.R_drew)); exact HO127.out), (by (with_reducible repeat (first | apply Kd.R_alloc | apply Kd.R_drewN | apply Kd.R_drew)); exact Kd.R_mono HO130.out (fun _ hk => hk.2)), (by (with_reducible repeat (first | apply Kd.R_alloc | apply Kd.R_drewN | apply Kd.R_drew)); exact Kd.R_mono HO_5.out (fun _ hk => hk.2)), (by (with_reducible repeat (first | refine blk_drewN ?_ _ | refine blk_drew ?_ | refine blk_alloc ?_ _)); exact BK117.out), (by repeat (first | (with_reducible first | exact HB.out | apply below_alloc | apply pw_below_drewN | apply below_drew1 | refine below_set ?_ GE117.out) | exact HB.out))⟩)
                          · skip
                            refine Kd.R_lit_step k44 _ 44 ?hg (N := 52) ?hd (xs := ([(⟨decide (t121 > 0), (⟨t116, t119⟩ : S29)⟩ : S44)] : List (S44))) (inner := [.bool (decide (t121 > 0)), .int .i64 t116, .int .i64 t119]) (ok := fun _ => True) (okp := fun _ => True) ?hr ?hp (fun _ hk => hk) trivial (Below.refl _ _) (Nat.le_refl _) (by simp) ?_; (case hd => rfl); (case hg => rfl); (case hr => first | (go_simp; done) | (go_simp; rfl)); (case hp => exact (Reps.c3 (show Kd.M k44 _ _ _ (⟨decide (t121 > 0), (⟨t116, t119⟩ : S29)⟩ : S44) [.bool (decide (t121 > 0)), .int .i64 t116, .int .i64 t119] from (k44_mkM _ _ _ (⟨decide (t121 > 0), (⟨t116, t119⟩ : S29)⟩ : S44) )) (Reps.none _ _)))
                            intro v129 w21 ho22 hb hg_ hnew_
                            clear hg_ hnew_
                            (first | rw [← Ny128.out] at ho22 | (simp only [Int.reduceToNat] at ho22; rw [← Ny128.out] at ho22))
                            have n0_ := Aside0.mk (Kd.R_below (by (with_reducible repeat (first | apply Kd.R_alloc | apply Kd.R_drewN | apply Kd.R_drew)); exact HO_4.out) hb)
                            have n1_ := Aside0.mk (Kd.R_elder' (by (with_reducible repeat (first | apply Kd.R_alloc | apply Kd.R_drewN | apply Kd.R_drew)); exact HO_5.out) (Kd.R_base ho22) hb)
                            have n2_ := Aside0.mk (Kd.R_below (by (with_reducible repeat (first | apply Kd.R_alloc | apply Kd.R_drewN | apply Kd.R_drew)); exact HO124.out) hb)
                            have n3_ := Aside0.mk (Kd.R_lower (Kd.R_new' ho22 (Kd.R_lt (by (with_reducible repeat (first | apply Kd.R_alloc | apply Kd.R_drewN | apply Kd.R_drew)); exact HO_5.out))) (below_size (by repeat (first | (with_reducible first | exact HB.out | apply below_alloc | apply pw_below_drewN | apply below_drew1 | refine below_set ?_ GE117.out) | exact HB.out))))
                            have n4_ := Aside0.mk (blk_below (g := gb117) (o := .cells #[.int .i64 t116, .int .i64 t119] 29 (0, 0)) (by (with_reducible repeat (first | refine blk_drewN ?_ _ | refine blk_drew ?_ | refine blk_alloc ?_ _)); exact BK117.out) hb)
                            have n5_ := Aside0.mk (below_step (by repeat (first | (with_reducible first | exact HB.out | apply below_alloc | apply pw_below_drewN | apply below_drew1 | refine below_set ?_ GE117.out) | exact HB.out)) hb)
                            clear HO_4
                            clear HO_5
                            clear HO124
                            clear BK117
                            clear HB
                            have HO_4 := n0_
                            have HO_5 := n1_
                            have HO124 := n2_
                            have HO130 := n3_
                            have BK117 := n4_
                            have HB := n5_
                            clear n0_ n1_ n2_ n3_ n4_ n5_
                            clear hb ho22
                            obtain ⟨Ao24, co24, eo24⟩ := Kd.R_slice HO124.out
                            (first | subst eo24 | (injection eo24 with f1_ f2_ f3_; have f4_ := f1_.symm; have f5_ := f3_.symm; clear f1_ f2_ f3_; subst f4_; subst f5_))
                            refine hK.out _ _ ⟨(blk_cell BK117.out 0).trans rfl, (blk_cell BK117.out 1).trans rfl⟩ (fun hHeld => ?_)
                            clear hK K
                            refine norm_ (a' := ?_) ?_ ?_
                            rotate_left
                            · show Act.put _ (some 52) _ = _
                              simp only [Act.put, List.setIfInBounds_toArray, List.set_cons_zero, List.set_cons_succ, i64_w, i32_w]
                              rfl
                            refine one_ (i := 5) (N := some 47) #[true, true, true, true, true, true, true, true, true, true, true, false, false, false] rfl rfl (one_of HT_.out (by kernel_rfl)) (by decide) (fun K hK => ?_)
                            refine Kd.R_append_rows_step k31 (w0 := w) w.heap.size (by rfl) (.tmp 42) (.tmp 46) 24 31 (.agg #[(.bool false), (.int .i64 0), (.int .i64 0)]) 24 rfl Try.underlying24 info31 rfl (by decide) (by omega) (.slice Ao15 x4_1.length co15) x4_1 y122 _ _ _ (fun k_ => some k_ ≠ (.slice Ao24 y122.length co24 : Value).ownBlock) (fun _ => False) rfl rfl ?aO ?aR (fun _ _ h => h) (fun _ h => h.elim) ?aF ?aB ?aS ?aL ?_
                            (case aR => repeat (first | exact (Kd.R_reads' HO124.out).2.2 | (with_reducible refine Kd.C_alloc ?_ _) | (with_reducible refine Kd.C_drewN ?_ _) | (with_reducible refine Kd.C_drew ?_)))
                            (case aB => exact (by repeat (first | (with_reducible first | exact HB.out | apply below_alloc | apply pw_below_drewN | apply below_drew1 | refine below_set ?_ GE117.out) | exact HB.out)))
                            (case aF => exact (fun k_ hk => Kd.fresh' (Kd.R_lt (by (with_reducible repeat (first | apply Kd.R_alloc | apply Kd.R_drewN | apply Kd.R_drew)); exact HO124.out)) k_ hk))
                            (case aO => exact (by (with_reducible repeat (first | apply Kd.R_alloc | apply Kd.R_drewN | apply Kd.R_drew)); exact Kd.R_mono HO_4.out (fun _ hk => hk.2)))
                            (case aS => exact (below_size (by repeat (first | (with_reducible first | exact HB.out | apply below_alloc | apply pw_below_drewN | apply below_drew1 | refine below_set ?_ GE117.out) | exact HB.out))))
                            (case aL => have := LMc11.out; omega)
                            intro v126 w23 ho hb hg hat
                            rw [← Ny125.out] at ho
                            have n0_ := Aside0.mk (Kd.R_over' (by (with_reducible repeat (first | apply Kd.R_alloc | apply Kd.R_drewN | apply Kd.R_drew)); exact HO_5.out) (Kd.R_typed (by (with_reducible repeat (first | apply Kd.R_alloc | apply Kd.R_drewN | apply Kd.R_drew)); exact HO_4.out)) (by decide) hg)
                            have n1_ := Aside0.mk (blk_grown (g := gb117) (o := .cells #[.int .i64 t116, .int .i64 t119] 29 (0, 0)) (by (with_reducible repeat (first | refine blk_drewN ?_ _ | refine blk_drew ?_ | refine blk_alloc ?_ _)); exact BK117.out) hg (Kd.R_ne HO_4.out BK117.out (by decide)))
                            have n2_ := Aside0.mk (Kd.R_after (ok := (fun _ => True)) (by (with_reducible repeat (first | apply Kd.R_alloc | apply Kd.R_drewN | apply Kd.R_drew)); exact HO124.out) hg hat)
                            have n3_ := Aside0.mk (Kd.R_over' (by (with_reducible repeat (first | apply Kd.R_alloc | apply Kd.R_drewN | apply Kd.R_drew)); exact HO130.out) (Kd.R_typed (by (with_reducible repeat (first | apply Kd.R_alloc | apply Kd.R_drewN | apply Kd.R_drew)); exact HO_4.out)) (by decide) hg)
                            have n4_ := Aside0.mk (hb)
                            have n5_ := Aside0.mk (ho)
                            clear HO_5
                            clear BK117
                            clear HO124
                            clear HO130
                            clear HB
                            clear HO_4
                            have HO_5 := n0_
                            have BK117 := n1_
                            have HO124 := n2_
                            have HO130 := n3_
                            have HB := n4_
                            have HO127 := n5_
                            clear n0_ n1_ n2_ n3_ n4_ n5_
                            clear ho hb hg hat
                            refine hK.out _ _ ⟨(blk_cell BK117.out 0).trans rfl, (blk_cell BK117.out 1).trans rfl⟩ (fun hHeld => ?_)
                            clear hK K
                            refine norm_ (a' := ?_) ?_ ?_
                            rotate_left
                            · show Act.put _ (some 47) _ = _
                              simp only [Act.put, List.setIfInBounds_toArray, List.set_cons_zero, List.set_cons_succ, i64_w, i32_w]
                              rfl
                            exact norm_ (by simp only [putAll, Act.put, List.setIfInBounds_toArray, List.set_cons_zero, List.set_cons_succ]) (hCont (.slice Ao24 y122.length co24, v126, v129) _ ⟨hHeld, (by (with_reducible repeat (first | apply Kd.R_alloc | apply Kd.R_drewN | apply Kd.R_drew)); exact Kd.R_mono HO124.out (fun _ hk => hk.2)), (by (with_reducible repeat (first | apply Kd.R_alloc | apply Kd.R_drewN | apply Kd.R_drew)); exact HO127.out), (by (with_reducible repeat (first | apply Kd.R_alloc | apply Kd.R_drewN | apply Kd.R_drew)); exact Kd.R_mono HO130.out (fun _ hk => hk.2)), (by (with_reducible repeat (first | apply Kd.R_alloc | apply Kd.R_drewN | apply Kd.R_drew)); exact Kd.R_mono HO_5.out (fun _ hk => hk.2)), (by (with_reducible repeat (first | refine blk_drewN ?_ _ | refine blk_drew ?_ | refine blk_alloc ?_ _)); exact BK117.out), (by repeat (first | (with_reducible first | exact HB.out | apply below_alloc | apply pw_below_drewN | apply below_drew1 | refine below_set ?_ GE117.out) | exact HB.out))⟩)
                        · skip
                          refine Kd.R_lit_step k44 _ 44 ?hg (N := 52) ?hd (xs := ([(⟨decide (t121 > 0), (⟨t116, t119⟩ : S29)⟩ : S44)] : List (S44))) (inner := [.bool (decide (t121 > 0)), .int .i64 t116, .int .i64 t119]) (ok := fun _ => True) (okp := fun _ => True) ?hr ?hp (fun _ hk => hk) trivial (Below.refl _ _) (Nat.le_refl _) (by simp) ?_; (case hd => rfl); (case hg => rfl); (case hr => first | (go_simp; done) | (go_simp; rfl)); (case hp => exact (Reps.c3 (show Kd.M k44 _ _ _ (⟨decide (t121 > 0), (⟨t116, t119⟩ : S29)⟩ : S44) [.bool (decide (t121 > 0)), .int .i64 t116, .int .i64 t119] from (k44_mkM _ _ _ (⟨decide (t121 > 0), (⟨t116, t119⟩ : S29)⟩ : S44) )) (Reps.none _ _)))
                          intro v129 w19 ho20 hb hg_ hnew_
                          clear hg_ hnew_
                          (first | rw [← Ny128.out] at ho20 | (simp only [Int.reduceToNat] at ho20; rw [← Ny128.out] at ho20))
                          have n0_ := Aside0.mk (Kd.R_below (by (with_reducible repeat (first | apply Kd.R_alloc | apply Kd.R_drewN | apply Kd.R_drew)); exact HO_4.out) hb)
                          have n1_ := Aside0.mk (Kd.R_elder' (by (with_reducible repeat (first | apply Kd.R_alloc | apply Kd.R_drewN | apply Kd.R_drew)); exact HO_5.out) (Kd.R_base ho20) hb)
                          have n2_ := Aside0.mk (Kd.R_lower (Kd.R_new' ho20 (Kd.R_lt (by (with_reducible repeat (first | apply Kd.R_alloc | apply Kd.R_drewN | apply Kd.R_drew)); exact HO_5.out))) (below_size (by repeat (first | (with_reducible first | exact HB.out | apply below_alloc | apply pw_below_drewN | apply below_drew1 | refine below_set ?_ GE117.out) | exact HB.out))))
                          have n3_ := Aside0.mk (blk_below (g := gb117) (o := .cells #[.int .i64 t116, .int .i64 t119] 29 (0, 0)) (by (with_reducible repeat (first | refine blk_drewN ?_ _ | refine blk_drew ?_ | refine blk_alloc ?_ _)); exact BK117.out) hb)
                          have n4_ := Aside0.mk (below_step (by repeat (first | (with_reducible first | exact HB.out | apply below_alloc | apply pw_below_drewN | apply below_drew1 | refine below_set ?_ GE117.out) | exact HB.out)) hb)
                          clear HO_4
                          clear HO_5
                          clear BK117
                          clear HB
                          have HO_4 := n0_
                          have HO_5 := n1_
                          have HO130 := n2_
                          have BK117 := n3_
                          have HB := n4_
                          clear n0_ n1_ n2_ n3_ n4_
                          clear hb ho20
                          refine hK.out _ _ ⟨(blk_cell BK117.out 0).trans rfl, (blk_cell BK117.out 1).trans rfl⟩ (fun hHeld => ?_)
                          clear hK K
                          refine norm_ (a' := ?_) ?_ ?_
                          rotate_left
                          · show Act.put _ (some 52) _ = _
                            simp only [Act.put, List.setIfInBounds_toArray, List.set_cons_zero, List.set_cons_succ, i64_w, i32_w]
                            rfl
                          refine one_ (i := 4) (N := some 46) #[true, true, true, true, true, false, true, true, true, true, true, false, false, false] rfl rfl (one_of HT_.out (by kernel_rfl)) (by decide) (fun K hK => ?_)
                          refine Kd.R_lit_step k31 _ 31 ?hg (N := 46) ?hd (xs := ([(⟨decide (t121 > 0), (⟨t116, t119⟩ : S29)⟩ : S31)] : List (S31))) (inner := [.bool (decide (t121 > 0)), .int .i64 t116, .int .i64 t119]) (ok := fun _ => True) (okp := fun _ => True) ?hr ?hp (fun _ hk => hk) trivial (Below.refl _ _) (Nat.le_refl _) (by simp) ?_; (case hd => rfl); (case hg => rfl); (case hr => first | (go_simp; done) | (go_simp; rfl)); (case hp => exact (Reps.c3 (show Kd.M k31 _ _ _ (⟨decide (t121 > 0), (⟨t116, t119⟩ : S29)⟩ : S31) [.bool (decide (t121 > 0)), .int .i64 t116, .int .i64 t119] from (k31_mkM _ _ _ (⟨decide (t121 > 0), (⟨t116, t119⟩ : S29)⟩ : S31) )) (Reps.none _ _)))
                          intro v123 w21 ho22 hb hg_ hnew_
                          clear hg_ hnew_
                          (first | rw [← Ny122.out] at ho22 | (simp only [Int.reduceToNat] at ho22; rw [← Ny122.out] at ho22))
                          have n0_ := Aside0.mk (Kd.R_elder' (by (with_reducible repeat (first | apply Kd.R_alloc | apply Kd.R_drewN | apply Kd.R_drew)); exact HO_4.out) (Kd.R_base ho22) hb)
                          have n1_ := Aside0.mk (Kd.R_below (by (with_reducible repeat (first | apply Kd.R_alloc | apply Kd.R_drewN | apply Kd.R_drew)); exact HO_5.out) hb)
                          have n2_ := Aside0.mk (Kd.R_below (by (with_reducible repeat (first | apply Kd.R_alloc | apply Kd.R_drewN | apply Kd.R_drew)); exact HO130.out) hb)
                          have n3_ := Aside0.mk (Kd.R_lower (Kd.R_new' ho22 (Kd.R_lt (by (with_reducible repeat (first | apply Kd.R_alloc | apply Kd.R_drewN | apply Kd.R_drew)); exact HO_4.out))) (below_size (by repeat (first | (with_reducible first | exact HB.out | apply below_alloc | apply pw_below_drewN | apply below_drew1 | refine below_set ?_ GE117.out) | exact HB.out))))
                          have n4_ := Aside0.mk (blk_below (g := gb117) (o := .cells #[.int .i64 t116, .int .i64 t119] 29 (0, 0)) (by (with_reducible repeat (first | refine blk_drewN ?_ _ | refine blk_drew ?_ | refine blk_alloc ?_ _)); exact BK117.out) hb)
                          have n5_ := Aside0.mk (below_step (by repeat (first | (with_reducible first | exact HB.out | apply below_alloc | apply pw_below_drewN | apply below_drew1 | refine below_set ?_ GE117.out) | exact HB.out)) hb)
                          clear HO_4
                          clear HO_5
                          clear HO130
                          clear BK117
                          clear HB
                          have HO_4 := n0_
                          have HO_5 := n1_
                          have HO130 := n2_
                          have HO124 := n3_
                          have BK117 := n4_
                          have HB := n5_
                          clear n0_ n1_ n2_ n3_ n4_ n5_
                          clear hb ho22
                          obtain ⟨Ao24, co24, eo24⟩ := Kd.R_slice HO124.out
                          (first | subst eo24 | (injection eo24 with f1_ f2_ f3_; have f4_ := f1_.symm; have f5_ := f3_.symm; clear f1_ f2_ f3_; subst f4_; subst f5_))
                          refine hK.out _ _ ⟨(blk_cell BK117.out 0).trans rfl, (blk_cell BK117.out 1).trans rfl⟩ (fun hHeld => ?_)
                          clear hK K
                          refine norm_ (a' := ?_) ?_ ?_
                          rotate_left
                          · show Act.put _ (some 46) _ = _
                            simp only [Act.put, List.setIfInBounds_toArray, List.set_cons_zero, List.set_cons_succ, i64_w, i32_w]
                            rfl
                          refine one_ (i := 5) (N := some 47) #[true, true, true, true, true, true, true, true, true, true, true, false, false, false] rfl rfl (one_of HT_.out (by kernel_rfl)) (by decide) (fun K hK => ?_)
                          refine Kd.R_append_rows_step k31 (w0 := w) w.heap.size (by rfl) (.tmp 42) (.tmp 46) 24 31 (.agg #[(.bool false), (.int .i64 0), (.int .i64 0)]) 24 rfl Try.underlying24 info31 rfl (by decide) (by omega) (.slice Ao15 x4_1.length co15) x4_1 y122 _ _ _ (fun k_ => some k_ ≠ (.slice Ao24 y122.length co24 : Value).ownBlock) (fun _ => False) rfl rfl ?aO ?aR (fun _ _ h => h) (fun _ h => h.elim) ?aF ?aB ?aS ?aL ?_
                          (case aR => repeat (first | exact (Kd.R_reads' HO124.out).2.2 | (with_reducible refine Kd.C_alloc ?_ _) | (with_reducible refine Kd.C_drewN ?_ _) | (with_reducible refine Kd.C_drew ?_)))
                          (case aB => exact (by repeat (first | (with_reducible first | exact HB.out | apply below_alloc | apply pw_below_drewN | apply below_drew1 | refine below_set ?_ GE117.out) | exact HB.out)))
                          (case aF => exact (fun k_ hk => Kd.fresh' (Kd.R_lt (by (with_reducible repeat (first | apply Kd.R_alloc | apply Kd.R_drewN | apply Kd.R_drew)); exact HO124.out)) k_ hk))
                          (case aO => exact (by (with_reducible repeat (first | apply Kd.R_alloc | apply Kd.R_drewN | apply Kd.R_drew)); exact Kd.R_mono HO_4.out (fun _ hk => hk.2)))
                          (case aS => exact (below_size (by repeat (first | (with_reducible first | exact HB.out | apply below_alloc | apply pw_below_drewN | apply below_drew1 | refine below_set ?_ GE117.out) | exact HB.out))))
                          (case aL => have := LMc11.out; omega)
                          intro v126 w23 ho hb hg hat
                          rw [← Ny125.out] at ho
                          have n0_ := Aside0.mk (Kd.R_over' (by (with_reducible repeat (first | apply Kd.R_alloc | apply Kd.R_drewN | apply Kd.R_drew)); exact HO_5.out) (Kd.R_typed (by (with_reducible repeat (first | apply Kd.R_alloc | apply Kd.R_drewN | apply Kd.R_drew)); exact HO_4.out)) (by decide) hg)
                          have n1_ := Aside0.mk (blk_grown (g := gb117) (o := .cells #[.int .i64 t116, .int .i64 t119] 29 (0, 0)) (by (with_reducible repeat (first | refine blk_drewN ?_ _ | refine blk_drew ?_ | refine blk_alloc ?_ _)); exact BK117.out) hg (Kd.R_ne HO_4.out BK117.out (by decide)))
                          have n2_ := Aside0.mk (Kd.R_over' (by (with_reducible repeat (first | apply Kd.R_alloc | apply Kd.R_drewN | apply Kd.R_drew)); exact HO130.out) (Kd.R_typed (by (with_reducible repeat (first | apply Kd.R_alloc | apply Kd.R_drewN | apply Kd.R_drew)); exact HO_4.out)) (by decide) hg)
                          have n3_ := Aside0.mk (Kd.R_after (ok := (fun _ => True)) (by (with_reducible repeat (first | apply Kd.R_alloc | apply Kd.R_drewN | apply Kd.R_drew)); exact HO124.out) hg hat)
                          have n4_ := Aside0.mk (hb)
                          have n5_ := Aside0.mk (ho)
                          clear HO_5
                          clear BK117
                          clear HO130
                          clear HO124
                          clear HB
                          clear HO_4
                          have HO_5 := n0_
                          have BK117 := n1_
                          have HO130 := n2_
                          have HO124 := n3_
                          have HB := n4_
                          have HO127 := n5_
                          clear n0_ n1_ n2_ n3_ n4_ n5_
                          clear ho hb hg hat
                          refine hK.out _ _ ⟨(blk_cell BK117.out 0).trans rfl, (blk_cell BK117.out 1).trans rfl⟩ (fun hHeld => ?_)
                          clear hK K
                          refine norm_ (a' := ?_) ?_ ?_
                          rotate_left
                          · show Act.put _ (some 47) _ = _
                            simp only [Act.put, List.setIfInBounds_toArray, List.set_cons_zero, List.set_cons_succ, i64_w, i32_w]
                            rfl
                          exact norm_ (by simp only [putAll, Act.put, List.setIfInBounds_toArray, List.set_cons_zero, List.set_cons_succ]) (hCont (.slice Ao24 y122.length co24, v126, v129) _ ⟨hHeld, (by (with_reducible repeat (first | apply Kd.R_alloc | apply Kd.R_drewN | apply Kd.R_drew)); exact Kd.R_mono HO124.out (fun _ hk => hk.2)), (by (with_reducible repeat (first | apply Kd.R_alloc | apply Kd.R_drewN | apply Kd.R_drew)); exact HO127.out), (by (with_reducible repeat (first | apply Kd.R_alloc | apply Kd.R_drewN | apply Kd.R_drew)); exact Kd.R_mono HO130.out (fun _ hk => hk.2)), (by (with_reducible repeat (first | apply Kd.R_alloc | apply Kd.R_drewN | apply Kd.R_drew)); exact Kd.R_mono HO_5.out (fun _ hk => hk.2)), (by (with_reducible repeat (first | refine blk_drewN ?_ _ | refine blk_drew ?_ | refine blk_alloc ?_ _)); exact BK117.out), (by repeat (first | (with_reducible first | exact HB.out | apply below_alloc | apply pw_below_drewN | apply below_drew1 | refine below_set ?_ GE117.out) | exact HB.out))⟩)
                      rintro ⟨v123, v126, v129⟩ w25 ⟨hS_, h0_, h1_, h2_, h3_, h4_, h5_⟩
                      have n0_ : Aside0 (Kd.R k31 31 w25 w.heap.size (fun k_ => some k_ ≠ (v126 : Value).ownBlock) v123 y122) := ⟨h0_⟩
                      have n1_ : Aside0 (Kd.R k31 31 w25 w.heap.size (fun k_ => some k_ ≠ (v123 : Value).ownBlock) v126 y125) := ⟨h1_⟩
                      have n2_ : Aside0 (Kd.R k44 44 w25 w.heap.size (fun k_ => some k_ ≠ (.slice Ao16 x5_1.length co16 : Value).ownBlock) v129 y128) := ⟨h2_⟩
                      have n3_ : Aside0 (Kd.R k44 44 w25 w.heap.size (fun k_ => some k_ ≠ (v129 : Value).ownBlock) (.slice Ao16 x5_1.length co16) x5_1) := ⟨h3_⟩
                      have n4_ : Aside0 (w25.heap[gb117]? = some (.cells #[.int .i64 t116, .int .i64 t119] 29 (0, 0))) := ⟨h4_⟩
                      have n5_ : Aside0 (Below w.heap.size w w25) := ⟨h5_⟩
                      clear HO_4
                      clear HO_5
                      clear BK117
                      clear HB
                      clear h0_ h1_ h2_ h3_ h4_ h5_
                      have HO124 := n0_
                      have HO127 := n1_
                      have HO130 := n2_
                      have HO_5 := n3_
                      have BK117 := n4_
                      have HB := n5_
                      clear n0_ n1_ n2_ n3_ n4_ n5_
                      have hHeld : w25.cell? ⟨gb117, 0, none⟩ = some (.int .i64 t116) ∧ w25.cell? ⟨gb117, 1, none⟩ = some (.int .i64 t119) := hS_
                      obtain ⟨Ao27, co27, eo27⟩ := Kd.R_slice HO130.out
                      (first | subst eo27 | (injection eo27 with f1_ f2_ f3_; have f4_ := f1_.symm; have f5_ := f3_.symm; clear f1_ f2_ f3_; subst f4_; subst f5_))
                      refine norm_ (a' := ?_) ?_ ?_
                      rotate_left
                      · simp only [putAll, Act.put, List.setIfInBounds_toArray, List.set_cons_zero, List.set_cons_succ]
                        rfl
                      refine one_ (i := 11) (N := some 53) #[true, true, true, true, true, true, true, true, true, true, true, true, false, false] rfl rfl (one_of HT_.out (by kernel_rfl)) (by decide) (fun K hK => ?_)
                      refine Kd.R_append_rows_step k44 (w0 := w) w.heap.size (by rfl) (.tmp 48) (.tmp 52) 25 44 (.agg #[(.bool false), (.int .i64 0), (.int .i64 0)]) 24 rfl Try.underlying25 info44 rfl (by decide) (by omega) (.slice Ao16 x5_1.length co16) x5_1 y128 _ _ _ (fun k_ => some k_ ≠ (.slice Ao27 y128.length co27 : Value).ownBlock) (fun _ => False) rfl rfl ?aO ?aR (fun _ _ h => h) (fun _ h => h.elim) ?aF ?aB ?aS ?aL ?_
                      (case aR => repeat (first | exact (Kd.R_reads' HO130.out).2.2 | (with_reducible refine Kd.C_alloc ?_ _) | (with_reducible refine Kd.C_drewN ?_ _) | (with_reducible refine Kd.C_drew ?_)))
                      (case aB => exact (by repeat (first | (with_reducible first | exact HB.out | apply below_alloc | apply pw_below_drewN | apply below_drew1 | refine below_set ?_ GE117.out) | exact HB.out)))
                      (case aF => exact (fun k_ hk => Kd.fresh' (Kd.R_lt (by (with_reducible repeat (first | apply Kd.R_alloc | apply Kd.R_drewN | apply Kd.R_drew)); exact HO130.out)) k_ hk))
                      (case aO => exact (by (with_reducible repeat (first | apply Kd.R_alloc | apply Kd.R_drewN | apply Kd.R_drew)); exact HO_5.out))
                      (case aS => exact (below_size (by repeat (first | (with_reducible first | exact HB.out | apply below_alloc | apply pw_below_drewN | apply below_drew1 | refine below_set ?_ GE117.out) | exact HB.out))))
                      (case aL => have := LMc12.out; omega)
                      intro v132 w26 ho hb hg hat
                      rw [← Ny131.out] at ho
                      have n0_ := Aside0.mk (blk_grown (g := gb117) (o := .cells #[.int .i64 t116, .int .i64 t119] 29 (0, 0)) (by (with_reducible repeat (first | refine blk_drewN ?_ _ | refine blk_drew ?_ | refine blk_alloc ?_ _)); exact BK117.out) hg (Kd.R_ne HO_5.out BK117.out (by decide)))
                      have n1_ := Aside0.mk (Kd.R_over' (by (with_reducible repeat (first | apply Kd.R_alloc | apply Kd.R_drewN | apply Kd.R_drew)); exact HO124.out) (Kd.R_typed (by (with_reducible repeat (first | apply Kd.R_alloc | apply Kd.R_drewN | apply Kd.R_drew)); exact HO_5.out)) (by decide) hg)
                      have n2_ := Aside0.mk (Kd.R_over' (by (with_reducible repeat (first | apply Kd.R_alloc | apply Kd.R_drewN | apply Kd.R_drew)); exact HO127.out) (Kd.R_typed (by (with_reducible repeat (first | apply Kd.R_alloc | apply Kd.R_drewN | apply Kd.R_drew)); exact HO_5.out)) (by decide) hg)
                      have n3_ := Aside0.mk (Kd.R_after (ok := (fun _ => True)) (by (with_reducible repeat (first | apply Kd.R_alloc | apply Kd.R_drewN | apply Kd.R_drew)); exact Kd.R_mono HO130.out (fun _ hk => ⟨trivial, hk⟩)) hg hat)
                      have n4_ := Aside0.mk (hb)
                      have n5_ := Aside0.mk (ho)
                      clear BK117
                      clear HO124
                      clear HO127
                      clear HO130
                      clear HB
                      clear HO_5
                      have BK117 := n0_
                      have HO124 := n1_
                      have HO127 := n2_
                      have HO130 := n3_
                      have HB := n4_
                      have HO133 := n5_
                      clear n0_ n1_ n2_ n3_ n4_ n5_
                      clear ho hb hg hat
                      refine hK.out _ _ ⟨(blk_cell BK117.out 0).trans rfl, (blk_cell BK117.out 1).trans rfl⟩ (fun hHeld => ?_)
                      clear hK K
                      refine norm_ (a' := ?_) ?_ ?_
                      rotate_left
                      · show Act.put _ (some 53) _ = _
                        simp only [Act.put, List.setIfInBounds_toArray, List.set_cons_zero, List.set_cons_succ, i64_w, i32_w]
                        rfl
                      refine pure_ (i := 12) (N := some 4) (v := ?_) (a' := ?_) #[true, true, true, true, true, true, true, true, true, true, true, true, true, false] rfl rfl (any_of HT_.out (by kernel_rfl)) (fun _ _ _ h => h) (Or.inl ⟨by rfl, ?_⟩) ?_ ?_
                      rotate_left
                      · intro w'
                        go_simp
                        with_reducible rfl
                      rotate_left
                      · simp only [Act.put, List.setIfInBounds_toArray, List.set_cons_zero, List.set_cons_succ, i64_w, i32_w]
                        rfl
                      refine pure_ (i := 13) (N := some 5) (v := ?_) (a' := ?_) #[true, true, true, true, true, true, true, true, true, true, true, true, true, true] rfl rfl (any_of HT_.out (by kernel_rfl)) (fun _ _ _ h => h) (Or.inl ⟨by rfl, ?_⟩) ?_ ?_
                      rotate_left
                      · intro w'
                        go_simp
                        with_reducible rfl
                      rotate_left
                      · simp only [Act.put, List.setIfInBounds_toArray, List.set_cons_zero, List.set_cons_succ, i64_w, i32_w]
                        rfl
                      refine done_ (done_of HT_.out (by kernel_rfl)) ?_
                      try go_wp2
                      go_roundg kj1
                      case measure => have := HK1.out; have := HJ1.out; omega
                      case rel => exact ⟨(y125), (y131), (wrap64 (x6_1 + 1)), (by first | rfl | (simp; done) | (simp [*]; done)), H', ⟨by have := HK1.out; have := HJ1.out; omega⟩, ⟨by (with_reducible repeat (first | apply Kd.R_alloc | apply Kd.R_drewN | apply Kd.R_drew)); exact Kd.R_mono HO127.out (fun _ hk => trivial)⟩, ⟨by (with_reducible repeat (first | apply Kd.R_alloc | apply Kd.R_drewN | apply Kd.R_drew)); exact Kd.R_mono HO133.out (fun _ hk => trivial)⟩, ⟨by repeat (first | (with_reducible first | exact HB.out | apply below_alloc | apply pw_below_drewN | apply below_drew1 | refine below_set ?_ GE117.out) | exact HB.out)⟩⟩
                    · rw [if_neg c12] at H
                      exact absurd H (by simp)
                  · rw [if_neg c11] at H
                    exact absurd H (by simp)
                · rw [if_neg c8] at H
                  have c8b0 : (t116 == 2) = false := beq_eq_false_iff_ne.mpr c8
                  have c8b1 : (t116 != 2) = true := bne_iff_ne.mpr c8
                  replace H := Option.bind_eq_some_iff.mp H
                  obtain ⟨t135, A280, H⟩ := H
                  replace H : ((some (([(⟨decide (t135 > 0), (⟨t116, 0⟩ : S29)⟩ : S31)] : List (S31)) : List (S31))).bind fun y136 => (if x4_1.length + y136.length < 5864062014805 then ((some (([(⟨decide (t135 > 0), (⟨t116, 0⟩ : S29)⟩ : S44)] : List (S44)) : List (S44))).bind fun y142 => (if x5_1.length + y142.length < 5864062014805 then (plaitinglaw15_Row.l0 kj1 l0 (x4_1 ++ y136) (x5_1 ++ y142) (wrap64 (x6_1 + 1))) else (none))) else (none))) = some (r1, r2) := H
                  have A28 := Aside0.mk A280
                  clear A280
                  obtain ⟨y136, hy136⟩ : ∃ y_ : List (S31), y_ = (([(⟨decide (t135 > 0), (⟨t116, 0⟩ : S29)⟩ : S31)] : List (S31))) := ⟨_, rfl⟩
                  replace H : (if x4_1.length + y136.length < 5864062014805 then ((some (([(⟨decide (t135 > 0), (⟨t116, 0⟩ : S29)⟩ : S44)] : List (S44)) : List (S44))).bind fun y142 => (if x5_1.length + y142.length < 5864062014805 then (plaitinglaw15_Row.l0 kj1 l0 (x4_1 ++ y136) (x5_1 ++ y142) (wrap64 (x6_1 + 1))) else (none))) else (none)) = some (r1, r2) := by first | (rw [hy136]; with_reducible exact H) | (have H2_ := (Option.bind_some _ _).symm.trans H; rw [hy136]; with_reducible exact H2_) | (have H2_ := (Option.bind_some _ _).symm.trans H; with_reducible exact H2_) | with_reducible exact H | (rw [hy136]; exact H) | exact H
                  have Ny136 := Aside0.mk hy136
                  clear hy136
                  by_cases c29 : x4_1.length + y136.length < 5864062014805
                  · rw [if_pos c29] at H
                    have LMc29 := Aside0.mk c29
                    clear c29
                    obtain ⟨y139, hy139⟩ : ∃ y_ : List (S31), y_ = (x4_1 ++ y136) := ⟨_, rfl⟩
                    replace H : ((some (([(⟨decide (t135 > 0), (⟨t116, 0⟩ : S29)⟩ : S44)] : List (S44)) : List (S44))).bind fun y142 => (if x5_1.length + y142.length < 5864062014805 then (plaitinglaw15_Row.l0 kj1 l0 y139 (x5_1 ++ y142) (wrap64 (x6_1 + 1))) else (none))) = some (r1, r2) := by first | (rw [hy139]; with_reducible exact H) | (have H2_ := (Option.bind_some _ _).symm.trans H; rw [hy139]; with_reducible exact H2_) | (have H2_ := (Option.bind_some _ _).symm.trans H; with_reducible exact H2_) | with_reducible exact H | (rw [hy139]; exact H) | exact H
                    have Ny139 := Aside0.mk hy139
                    clear hy139
                    obtain ⟨y142, hy142⟩ : ∃ y_ : List (S44), y_ = (([(⟨decide (t135 > 0), (⟨t116, 0⟩ : S29)⟩ : S44)] : List (S44))) := ⟨_, rfl⟩
                    replace H : (if x5_1.length + y142.length < 5864062014805 then (plaitinglaw15_Row.l0 kj1 l0 y139 (x5_1 ++ y142) (wrap64 (x6_1 + 1))) else (none)) = some (r1, r2) := by first | (rw [hy142]; with_reducible exact H) | (have H2_ := (Option.bind_some _ _).symm.trans H; rw [hy142]; with_reducible exact H2_) | (have H2_ := (Option.bind_some _ _).symm.trans H; with_reducible exact H2_) | with_reducible exact H | (rw [hy142]; exact H) | exact H
                    have Ny142 := Aside0.mk hy142
                    clear hy142
                    by_cases c30 : x5_1.length + y142.length < 5864062014805
                    · rw [if_pos c30] at H
                      have LMc30 := Aside0.mk c30
                      clear c30
                      obtain ⟨y145, hy145⟩ : ∃ y_ : List (S44), y_ = (x5_1 ++ y142) := ⟨_, rfl⟩
                      replace H : (plaitinglaw15_Row.l0 kj1 l0 y139 y145 (wrap64 (x6_1 + 1))) = some (r1, r2) := by first | (rw [hy145]; with_reducible exact H) | (have H2_ := (Option.bind_some _ _).symm.trans H; rw [hy145]; with_reducible exact H2_) | (have H2_ := (Option.bind_some _ _).symm.trans H; with_reducible exact H2_) | with_reducible exact H | (rw [hy145]; exact H) | exact H
                      have Ny145 := Aside0.mk hy145
                      clear hy145
                      have H' := Aside0.mk H
                      clear H
                      have p115 : 0 ≤ (x6_1 : Int) := of_decide_eq_true (by first | (with_reducible assumption) | assumption)
                      have q115 : x6_1 < (l0.length : Int) := of_decide_eq_true (by first | (with_reducible assumption) | assumption)
                      obtain ⟨ad115, e115, hx115_0⟩ := Kd.at_int HR0.out x6_1 p115 q115
                      cases e115
                      replace hx115_0 := (HB.out.cell (World.block_lt_of_cell? w _ hx115_0)).trans hx115_0
                      replace p115 := eq_true p115
                      replace q115 := eq_true q115
                      try go_wp2_with (first | ((with_reducible refine gate_callee (f := 11) rfl ?_); refine goesL_ (some 23) rfl rfl Try.func11 (by kernel_rfl) rfl #[.int .i64 (rd l0 x6_1), .int .i64 3] rfl (by (try simp only [List.map_toArray, List.map_cons, List.map_nil]); first | done | rfl | (simp only [List.length_drop, List.length_take]; rfl)) ?_; (with_reducible refine (plaitinglaw15_within.calls (rd l0 x6_1) 3 t116 _ A7.out).mono ?_); rintro e w' ⟨rfl, ⟨nd, rfl⟩⟩; refine ⟨_, rfl, ?_⟩; (try (rw [drewN_self wc]; generalize hq_ : World.drewN wc _ = wc; have n0_ : Aside0 (Kd.R k31 31 wc w.heap.size (fun _ => True) u4 x4_1) := ⟨by rw [← hq_]; exact (by (with_reducible repeat (first | apply Kd.R_alloc | apply Kd.R_drewN | apply Kd.R_drew)); exact HO_4.out)⟩; have n1_ : Aside0 (Kd.R k44 44 wc w.heap.size (fun _ => True) u5 x5_1) := ⟨by rw [← hq_]; exact (by (with_reducible repeat (first | apply Kd.R_alloc | apply Kd.R_drewN | apply Kd.R_drew)); exact HO_5.out)⟩; have n2_ : Aside0 (Below w.heap.size w wc) := ⟨by rw [← hq_]; exact (by repeat (first | (with_reducible first | exact HB.out | apply below_alloc | apply pw_below_drewN | apply below_drew1) | exact HB.out))⟩; clear HO_4 HO_5 HB hq_; have HO_4 := n0_; have HO_5 := n1_; have HB := n2_; clear n0_ n1_ n2_))) | ((with_reducible refine gate_dst (N := 7) rfl ?_); refine box_event ?hg (N := 7) ?hd (cs := #[.int .i64 0, .int .i64 0]) (t := 29) ?hr ?_; (case hd => rfl); (case hg => rfl); (case hr => first | (go_simp; done) | (go_simp; rfl)); intro gb117 hg w31 hbox hb; have n0_ := Aside0.mk (Kd.R_below (by (with_reducible repeat (first | apply Kd.R_alloc | apply Kd.R_drewN | apply Kd.R_drew)); exact HO_4.out) hb); have n1_ := Aside0.mk (Kd.R_below (by (with_reducible repeat (first | apply Kd.R_alloc | apply Kd.R_drewN | apply Kd.R_drew)); exact HO_5.out) hb); have n2_ := Aside0.mk (below_step (by repeat (first | (with_reducible first | exact HB.out | apply below_alloc | apply pw_below_drewN | apply below_drew1) | exact HB.out)) hb); have n3_ := Aside0.mk (hbox); have n4_ := Aside0.mk ((by rw [hg]; exact (below_size (by repeat (first | (with_reducible first | exact HB.out | apply below_alloc | apply pw_below_drewN | apply below_drew1) | exact HB.out))) : w.heap.size ≤ gb117)); have n5_ := Aside0.mk ((by rw [hg]; exact (below_size (by repeat (first | (with_reducible first | exact HB.out | apply below_alloc | apply pw_below_drewN | apply below_drew1) | exact HB.out))) : w.heap.size ≤ gb117)); clear HO_4; clear HO_5; clear HB; have HO_4 := n0_; have HO_5 := n1_; have HB := n2_; have BK117 := n3_; have GW117 := n4_; have GE117 := n5_; clear n0_ n1_ n2_ n3_ n4_ n5_; clear hb hbox hg; have hcz32_0 : w31.cell? ⟨gb117, 0, none⟩ = some (.int .i64 0) := (blk_cell BK117.out 0).trans rfl; have hcz32_1 : w31.cell? ⟨gb117, 1, none⟩ = some (.int .i64 0) := (blk_cell BK117.out 1).trans rfl; have hfz32_0 := blk_frozen BK117.out 0; have hfz32_1 := blk_frozen BK117.out 1; have p134 : 0 ≤ (x6_1 : Int) := of_decide_eq_true (by first | (with_reducible assumption) | assumption); have q134 : x6_1 < (l0.length : Int) := of_decide_eq_true (by first | (with_reducible assumption) | assumption); obtain ⟨ad134, e134, hx134_0⟩ := Kd.at_int HR0.out x6_1 p134 q134; obtain rfl : ad115 = ad134 := (by injection e134); have hn134_0 : ad115.block ≠ gb117 := Nat.ne_of_lt (Nat.lt_of_lt_of_le (by have := World.block_lt_of_cell? _ _ hx134_0; first | rwa [add_block] at this | exact this) GW117.out); have hn134_1 : ad115.block ≠ gb117 := Nat.ne_of_lt (Nat.lt_of_lt_of_le (by have := World.block_lt_of_cell? _ _ hx134_0; first | rwa [add_block] at this | exact this) GW117.out); replace hx134_0 := (HB.out.cell (World.block_lt_of_cell? w _ hx134_0)).trans hx134_0; replace hx134_0 := (cell_far (p := ⟨gb117, 0, none⟩) (by first | (rw [add_block]; exact hn134_0) | (show (Addr.add _ _).block ≠ _; rw [add_block]; exact hn134_0) | exact hn134_0) (.int .i64 t116)).trans hx134_0; replace hx134_0 := (cell_far (p := ⟨gb117, 1, none⟩) (by first | (rw [add_block]; exact hn134_1) | (show (Addr.add _ _).block ≠ _; rw [add_block]; exact hn134_1) | exact hn134_1) (.int .i64 0)).trans hx134_0; clear hn134_0; clear hn134_1; replace p134 := eq_true p134; replace q134 := eq_true q134) | ((with_reducible refine gate_callee (f := 11) rfl ?_); refine goesL_ (some 40) rfl rfl Try.func11 (by kernel_rfl) rfl #[.int .i64 (wrap64 (Int.tdiv (rd l0 x6_1) 9)), .int .i64 6] rfl (by (try simp only [List.map_toArray, List.map_cons, List.map_nil]); first | done | rfl | (simp only [List.length_drop, List.length_take]; rfl)) ?_; (with_reducible refine (plaitinglaw15_within.calls (wrap64 (Int.tdiv (rd l0 x6_1) 9)) 6 t135 _ A28.out).mono ?_); rintro e w' ⟨rfl, ⟨nd, rfl⟩⟩; refine ⟨_, rfl, ?_⟩; obtain ⟨Ao33, co33, eo33⟩ := Kd.R_slice HO_4.out; subst eo33; obtain ⟨Ao34, co34, eo34⟩ := Kd.R_slice HO_5.out; subst eo34))
                      have n0_ : Aside0 (Kd.R k31 31 ((w31.setCell ⟨gb117, 0, none⟩ (.int .i64 t116)).setCell ⟨gb117, 1, none⟩ (.int .i64 0)) w.heap.size (fun _ => True) (.slice Ao33 x4_1.length co33) x4_1) := ⟨by (with_reducible repeat (first | apply Kd.R_alloc | apply Kd.R_drewN | apply Kd.R_drew)); exact Kd.R_mono (Kd.R_far (p := ⟨gb117, 1, none⟩) (Kd.R_far (p := ⟨gb117, 0, none⟩) (Kd.R_types HO_4.out BK117.out (by decide)) (fun _ hk => hk.2) (.int .i64 t116)) (fun _ hk => hk.2) (.int .i64 0)) (fun _ hk => trivial)⟩
                      have n1_ : Aside0 (Kd.R k44 44 ((w31.setCell ⟨gb117, 0, none⟩ (.int .i64 t116)).setCell ⟨gb117, 1, none⟩ (.int .i64 0)) w.heap.size (fun _ => True) (.slice Ao34 x5_1.length co34) x5_1) := ⟨by (with_reducible repeat (first | apply Kd.R_alloc | apply Kd.R_drewN | apply Kd.R_drew)); exact Kd.R_mono (Kd.R_far (p := ⟨gb117, 1, none⟩) (Kd.R_far (p := ⟨gb117, 0, none⟩) (Kd.R_types HO_5.out BK117.out (by decide)) (fun _ hk => hk.2) (.int .i64 t116)) (fun _ hk => hk.2) (.int .i64 0)) (fun _ hk => trivial)⟩
                      have n2_ : Aside0 (((w31.setCell ⟨gb117, 0, none⟩ (.int .i64 t116)).setCell ⟨gb117, 1, none⟩ (.int .i64 0)).heap[gb117]? = some (.cells #[.int .i64 t116, .int .i64 0] 29 (0, 0))) := ⟨by (with_reducible repeat (first | refine blk_drewN ?_ _ | refine blk_drew ?_ | refine blk_alloc ?_ _)); refine blk_put (cs := #[.int .i64 t116, .int .i64 0]) ?_ 1 _ rfl; (with_reducible repeat (first | refine blk_drewN ?_ _ | refine blk_drew ?_ | refine blk_alloc ?_ _)); refine blk_put (cs := #[.int .i64 0, .int .i64 0]) ?_ 0 _ rfl; (with_reducible repeat (first | refine blk_drewN ?_ _ | refine blk_drew ?_ | refine blk_alloc ?_ _)); exact BK117.out⟩
                      have n3_ : Aside0 (Below w.heap.size w ((w31.setCell ⟨gb117, 0, none⟩ (.int .i64 t116)).setCell ⟨gb117, 1, none⟩ (.int .i64 0))) := ⟨by repeat (first | (with_reducible first | exact HB.out | apply below_alloc | apply pw_below_drewN | apply below_drew1 | refine below_set ?_ GE117.out) | exact HB.out)⟩
                      (try clear HO_4)
                      (try clear HO_5)
                      (try clear BK117)
                      (try clear HB)
                      generalize ((w31.setCell ⟨gb117, 0, none⟩ (.int .i64 t116)).setCell ⟨gb117, 1, none⟩ (.int .i64 0)) = w35 at n0_ n1_ n2_ n3_ ⊢
                      have HO_4 := n0_
                      have HO_5 := n1_
                      have BK117 := n2_
                      have HB := n3_
                      clear n0_ n1_ n2_ n3_
                      (try (rw [drewN_self w35]; generalize hq_ : World.drewN w35 _ = w35; have n0_ : Aside0 (Kd.R k31 31 w35 w.heap.size (fun _ => True) (.slice Ao33 x4_1.length co33) x4_1) := ⟨by rw [← hq_]; exact (by (with_reducible repeat (first | apply Kd.R_alloc | apply Kd.R_drewN | apply Kd.R_drew)); exact HO_4.out)⟩; have n1_ : Aside0 (Kd.R k44 44 w35 w.heap.size (fun _ => True) (.slice Ao34 x5_1.length co34) x5_1) := ⟨by rw [← hq_]; exact (by (with_reducible repeat (first | apply Kd.R_alloc | apply Kd.R_drewN | apply Kd.R_drew)); exact HO_5.out)⟩; have n2_ : Aside0 (w35.heap[gb117]? = some (.cells #[.int .i64 t116, .int .i64 0] 29 (0, 0))) := ⟨by rw [← hq_]; exact (by (with_reducible repeat (first | refine blk_drewN ?_ _ | refine blk_drew ?_ | refine blk_alloc ?_ _)); exact BK117.out)⟩; have n3_ : Aside0 (Below w.heap.size w w35) := ⟨by rw [← hq_]; exact (by repeat (first | (with_reducible first | exact HB.out | apply below_alloc | apply pw_below_drewN | apply below_drew1 | refine below_set ?_ GE117.out) | exact HB.out))⟩; clear HO_4 HO_5 BK117 HB hq_; have HO_4 := n0_; have HO_5 := n1_; have BK117 := n2_; have HB := n3_; clear n0_ n1_ n2_ n3_))
                      have n0_ := Aside0.mk (Kd.R_drew HO_4.out)
                      have n1_ := Aside0.mk (Kd.R_drew HO_5.out)
                      have n2_ := Aside0.mk (blk_drew BK117.out)
                      have n3_ := Aside0.mk (below_drew1 HB.out)
                      clear HO_4
                      clear HO_5
                      clear BK117
                      clear HB
                      have HO_4 := n0_
                      have HO_5 := n1_
                      have BK117 := n2_
                      have HB := n3_
                      clear n0_ n1_ n2_ n3_
                      refine start_ (n := 14) (S := fun w' => w'.cell? ⟨gb117, 0, none⟩ = some (.int .i64 t116) ∧ w'.cell? ⟨gb117, 1, none⟩ = some (.int .i64 0)) (ds := []) #[false, false, false, false, false, false, false, false, false, false, false, false, false, false] (by kernel_rfl) rfl rfl ⟨(blk_cell BK117.out 0).trans rfl, (blk_cell BK117.out 1).trans rfl⟩ (fun hHeld => ?_); refine with_tabW plaitinglaw15_Row.tab10 plaitinglaw15_Row.bits10 (fun HT_ HW_ => ?_)
                      generalize w35.drew = w36 at HO_4 HO_5 BK117 HB hHeld ⊢
                      refine pure_ (i := 0) (N := some 42) (v := ?_) (a' := ?_) #[true, false, false, false, false, false, false, false, false, false, false, false, false, false] rfl rfl (any_of HT_.out (by kernel_rfl)) (fun _ _ _ h => h) (Or.inl ⟨by rfl, ?_⟩) ?_ ?_
                      rotate_left
                      · intro w'
                        go_simp
                        with_reducible rfl
                      rotate_left
                      · simp only [Act.put, List.setIfInBounds_toArray, List.set_cons_zero, List.set_cons_succ, i64_w, i32_w]
                        rfl
                      refine pure_ (i := 1) (N := some 43) (v := ?_) (a' := ?_) #[true, true, false, false, false, false, false, false, false, false, false, false, false, false] rfl rfl (any_of HT_.out (by kernel_rfl)) (fun _ _ _ h => h) (Or.inl ⟨by rfl, ?_⟩) ?_ ?_
                      rotate_left
                      · intro w'
                        go_simp
                        with_reducible rfl
                      rotate_left
                      · simp only [Act.put, List.setIfInBounds_toArray, List.set_cons_zero, List.set_cons_succ, i64_w, i32_w]
                        rfl
                      refine pure_ (i := 6) (N := some 48) (v := ?_) (a' := ?_) #[true, true, false, false, false, false, true, false, false, false, false, false, false, false] rfl rfl (any_of HT_.out (by kernel_rfl)) (fun _ _ _ h => h) (Or.inl ⟨by rfl, ?_⟩) ?_ ?_
                      rotate_left
                      · intro w'
                        go_simp
                        with_reducible rfl
                      rotate_left
                      · simp only [Act.put, List.setIfInBounds_toArray, List.set_cons_zero, List.set_cons_succ, i64_w, i32_w]
                        rfl
                      refine pure_ (i := 7) (N := some 49) (v := ?_) (a' := ?_) #[true, true, false, false, false, false, true, true, false, false, false, false, false, false] rfl rfl (any_of HT_.out (by kernel_rfl)) (fun _ _ _ h => h) (Or.inl ⟨by rfl, ?_⟩) ?_ ?_
                      rotate_left
                      · intro w'
                        go_simp
                        with_reducible rfl
                      rotate_left
                      · simp only [Act.put, List.setIfInBounds_toArray, List.set_cons_zero, List.set_cons_succ, i64_w, i32_w]
                        rfl
                      refine take_ (i := 2) (N := some 44) (v := ?_) (a' := ?_) #[true, true, true, false, false, false, true, true, false, false, false, false, false, false] rfl rfl (take_ofW HT_.out HW_.out (by kernel_rfl)) (fun _ _ _ h => h) (Or.inl ⟨by rfl, ?_⟩) hHeld ?_ ?_
                      rotate_left
                      · rintro w' ⟨s0, s1⟩
                        go_simp
                        with_reducible rfl
                      rotate_left
                      · simp only [Act.put, List.setIfInBounds_toArray, List.set_cons_zero, List.set_cons_succ, i64_w, i32_w]
                        rfl
                      refine pure_ (i := 3) (N := some 45) (v := ?_) (a' := ?_) #[true, true, true, true, false, false, true, true, false, false, false, false, false, false] rfl rfl (any_of HT_.out (by kernel_rfl)) (fun _ _ _ h => h) (Or.inl ⟨by rfl, ?_⟩) ?_ ?_
                      rotate_left
                      · intro w'
                        go_simp
                        with_reducible rfl
                      rotate_left
                      · simp only [Act.put, List.setIfInBounds_toArray, List.set_cons_zero, List.set_cons_succ, i64_w, i32_w]
                        rfl
                      refine take_ (i := 8) (N := some 50) (v := ?_) (a' := ?_) #[true, true, true, true, false, false, true, true, true, false, false, false, false, false] rfl rfl (take_ofW HT_.out HW_.out (by kernel_rfl)) (fun _ _ _ h => h) (Or.inl ⟨by rfl, ?_⟩) hHeld ?_ ?_
                      rotate_left
                      · rintro w' ⟨s0, s1⟩
                        go_simp
                        with_reducible rfl
                      rotate_left
                      · simp only [Act.put, List.setIfInBounds_toArray, List.set_cons_zero, List.set_cons_succ, i64_w, i32_w]
                        rfl
                      refine pure_ (i := 9) (N := some 51) (v := ?_) (a' := ?_) #[true, true, true, true, false, false, true, true, true, true, false, false, false, false] rfl rfl (any_of HT_.out (by kernel_rfl)) (fun _ _ _ h => h) (Or.inl ⟨by rfl, ?_⟩) ?_ ?_
                      rotate_left
                      · intro w'
                        go_simp
                        with_reducible rfl
                      rotate_left
                      · simp only [Act.put, List.setIfInBounds_toArray, List.set_cons_zero, List.set_cons_succ, i64_w, i32_w]
                        rfl
                      refine join_ (σ := Value × Value × Value) 3 #[true, true, true, true, true, true, true, true, true, true, true, false, false, false] (fun s_ => [(46, s_.1), (47, s_.2.1), (52, s_.2.2)]) (fun s_ w' => (w'.cell? ⟨gb117, 0, none⟩ = some (.int .i64 t116) ∧ w'.cell? ⟨gb117, 1, none⟩ = some (.int .i64 0)) ∧ (Kd.R k31 31 w' w.heap.size (fun k_ => some k_ ≠ (s_.2.1 : Value).ownBlock) s_.1 y136) ∧ (Kd.R k31 31 w' w.heap.size (fun k_ => some k_ ≠ (s_.1 : Value).ownBlock) s_.2.1 y139) ∧ (Kd.R k44 44 w' w.heap.size (fun k_ => some k_ ≠ (.slice Ao34 x5_1.length co34 : Value).ownBlock) s_.2.2 y142) ∧ (Kd.R k44 44 w' w.heap.size (fun k_ => some k_ ≠ (s_.2.2 : Value).ownBlock) (.slice Ao34 x5_1.length co34) x5_1) ∧ (w'.heap[gb117]? = some (.cells #[.int .i64 t116, .int .i64 0] 29 (0, 0))) ∧ (Below w.heap.size w w')) ?_ ?_
                      rotate_left
                      · intro hCont
                        refine two_ (i := 4) (j := 10) (Ni := some 46) (Nj := some 52) #[true, true, true, true, true, false, true, true, true, true, false, false, false, false] #[true, true, true, true, false, false, true, true, true, true, true, false, false, false] rfl rfl rfl rfl (two_of HT_.out (by kernel_rfl)) (by decide) (by decide) (fun K hK => ?_) (fun K hK => ?_)
                        · skip
                          refine Kd.R_lit_step k31 _ 31 ?hg (N := 46) ?hd (xs := ([(⟨decide (t135 > 0), (⟨t116, 0⟩ : S29)⟩ : S31)] : List (S31))) (inner := [.bool (decide (t135 > 0)), .int .i64 t116, .int .i64 0]) (ok := fun _ => True) (okp := fun _ => True) ?hr ?hp (fun _ hk => hk) trivial (Below.refl _ _) (Nat.le_refl _) (by simp) ?_; (case hd => rfl); (case hg => rfl); (case hr => first | (go_simp; done) | (go_simp; rfl)); (case hp => exact (Reps.c3 (show Kd.M k31 _ _ _ (⟨decide (t135 > 0), (⟨t116, 0⟩ : S29)⟩ : S31) [.bool (decide (t135 > 0)), .int .i64 t116, .int .i64 0] from (k31_mkM _ _ _ (⟨decide (t135 > 0), (⟨t116, 0⟩ : S29)⟩ : S31) )) (Reps.none _ _)))
                          intro v137 w37 ho38 hb hg_ hnew_
                          clear hg_ hnew_
                          (first | rw [← Ny136.out] at ho38 | (simp only [Int.reduceToNat] at ho38; rw [← Ny136.out] at ho38))
                          have n0_ := Aside0.mk (Kd.R_elder' (by (with_reducible repeat (first | apply Kd.R_alloc | apply Kd.R_drewN | apply Kd.R_drew)); exact HO_4.out) (Kd.R_base ho38) hb)
                          have n1_ := Aside0.mk (Kd.R_below (by (with_reducible repeat (first | apply Kd.R_alloc | apply Kd.R_drewN | apply Kd.R_drew)); exact HO_5.out) hb)
                          have n2_ := Aside0.mk (Kd.R_lower (Kd.R_new' ho38 (Kd.R_lt (by (with_reducible repeat (first | apply Kd.R_alloc | apply Kd.R_drewN | apply Kd.R_drew)); exact HO_4.out))) (below_size (by repeat (first | (with_reducible first | exact HB.out | apply below_alloc | apply pw_below_drewN | apply below_drew1 | refine below_set ?_ GE117.out) | exact HB.out))))
                          have n3_ := Aside0.mk (blk_below (g := gb117) (o := .cells #[.int .i64 t116, .int .i64 0] 29 (0, 0)) (by (with_reducible repeat (first | refine blk_drewN ?_ _ | refine blk_drew ?_ | refine blk_alloc ?_ _)); exact BK117.out) hb)
                          have n4_ := Aside0.mk (below_step (by repeat (first | (with_reducible first | exact HB.out | apply below_alloc | apply pw_below_drewN | apply below_drew1 | refine below_set ?_ GE117.out) | exact HB.out)) hb)
                          clear HO_4
                          clear HO_5
                          clear BK117
                          clear HB
                          have HO_4 := n0_
                          have HO_5 := n1_
                          have HO138 := n2_
                          have BK117 := n3_
                          have HB := n4_
                          clear n0_ n1_ n2_ n3_ n4_
                          clear hb ho38
                          obtain ⟨Ao40, co40, eo40⟩ := Kd.R_slice HO138.out
                          (first | subst eo40 | (injection eo40 with f1_ f2_ f3_; have f4_ := f1_.symm; have f5_ := f3_.symm; clear f1_ f2_ f3_; subst f4_; subst f5_))
                          refine hK.out _ _ ⟨(blk_cell BK117.out 0).trans rfl, (blk_cell BK117.out 1).trans rfl⟩ (fun hHeld => ?_)
                          clear hK K
                          refine norm_ (a' := ?_) ?_ ?_
                          rotate_left
                          · show Act.put _ (some 46) _ = _
                            simp only [Act.put, List.setIfInBounds_toArray, List.set_cons_zero, List.set_cons_succ, i64_w, i32_w]
                            rfl
                          refine two_ (i := 5) (j := 10) (Ni := some 47) (Nj := some 52) #[true, true, true, true, true, true, true, true, true, true, false, false, false, false] #[true, true, true, true, true, false, true, true, true, true, true, false, false, false] rfl rfl rfl rfl (two_of HT_.out (by kernel_rfl)) (by decide) (by decide) (fun K hK => ?_) (fun K hK => ?_)
                          · skip
                            refine Kd.R_append_rows_step k31 (w0 := w) w.heap.size (by rfl) (.tmp 42) (.tmp 46) 24 31 (.agg #[(.bool false), (.int .i64 0), (.int .i64 0)]) 24 rfl Try.underlying24 info31 rfl (by decide) (by omega) (.slice Ao33 x4_1.length co33) x4_1 y136 _ _ _ (fun k_ => some k_ ≠ (.slice Ao40 y136.length co40 : Value).ownBlock) (fun _ => False) rfl rfl ?aO ?aR (fun _ _ h => h) (fun _ h => h.elim) ?aF ?aB ?aS ?aL ?_
                            (case aR => repeat (first | exact (Kd.R_reads' HO138.out).2.2 | (with_reducible refine Kd.C_alloc ?_ _) | (with_reducible refine Kd.C_drewN ?_ _) | (with_reducible refine Kd.C_drew ?_)))
                            (case aB => exact (by repeat (first | (with_reducible first | exact HB.out | apply below_alloc | apply pw_below_drewN | apply below_drew1 | refine below_set ?_ GE117.out) | exact HB.out)))
                            (case aF => exact (fun k_ hk => Kd.fresh' (Kd.R_lt (by (with_reducible repeat (first | apply Kd.R_alloc | apply Kd.R_drewN | apply Kd.R_drew)); exact HO138.out)) k_ hk))
                            (case aO => exact (by (with_reducible repeat (first | apply Kd.R_alloc | apply Kd.R_drewN | apply Kd.R_drew)); exact Kd.R_mono HO_4.out (fun _ hk => hk.2)))
                            (case aS => exact (below_size (by repeat (first | (with_reducible first | exact HB.out | apply below_alloc | apply pw_below_drewN | apply below_drew1 | refine below_set ?_ GE117.out) | exact HB.out))))
                            (case aL => have := LMc29.out; omega)
                            intro v140 w39 ho hb hg hat
                            rw [← Ny139.out] at ho
                            have n0_ := Aside0.mk (Kd.R_over' (by (with_reducible repeat (first | apply Kd.R_alloc | apply Kd.R_drewN | apply Kd.R_drew)); exact HO_5.out) (Kd.R_typed (by (with_reducible repeat (first | apply Kd.R_alloc | apply Kd.R_drewN | apply Kd.R_drew)); exact HO_4.out)) (by decide) hg)
                            have n1_ := Aside0.mk (blk_grown (g := gb117) (o := .cells #[.int .i64 t116, .int .i64 0] 29 (0, 0)) (by (with_reducible repeat (first | refine blk_drewN ?_ _ | refine blk_drew ?_ | refine blk_alloc ?_ _)); exact BK117.out) hg (Kd.R_ne HO_4.out BK117.out (by decide)))
                            have n2_ := Aside0.mk (Kd.R_after (ok := (fun _ => True)) (by (with_reducible repeat (first | apply Kd.R_alloc | apply Kd.R_drewN | apply Kd.R_drew)); exact HO138.out) hg hat)
                            have n3_ := Aside0.mk (hb)
                            have n4_ := Aside0.mk (ho)
                            clear HO_5
                            clear BK117
                            clear HO138
                            clear HB
                            clear HO_4
                            have HO_5 := n0_
                            have BK117 := n1_
                            have HO138 := n2_
                            have HB := n3_
                            have HO141 := n4_
                            clear n0_ n1_ n2_ n3_ n4_
                            clear ho hb hg hat
                            refine hK.out _ _ ⟨(blk_cell BK117.out 0).trans rfl, (blk_cell BK117.out 1).trans rfl⟩ (fun hHeld => ?_)
                            clear hK K
                            refine norm_ (a' := ?_) ?_ ?_
                            rotate_left
                            · show Act.put _ (some 47) _ = _
                              simp only [Act.put, List.setIfInBounds_toArray, List.set_cons_zero, List.set_cons_succ, i64_w, i32_w]
                              rfl
                            refine one_ (i := 10) (N := some 52) #[true, true, true, true, true, true, true, true, true, true, true, false, false, false] rfl rfl (one_of HT_.out (by kernel_rfl)) (by decide) (fun K hK => ?_)
                            refine Kd.R_lit_step k44 _ 44 ?hg (N := 52) ?hd (xs := ([(⟨decide (t135 > 0), (⟨t116, 0⟩ : S29)⟩ : S44)] : List (S44))) (inner := [.bool (decide (t135 > 0)), .int .i64 t116, .int .i64 0]) (ok := fun _ => True) (okp := fun _ => True) ?hr ?hp (fun _ hk => hk) trivial (Below.refl _ _) (Nat.le_refl _) (by simp) ?_; (case hd => rfl); (case hg => rfl); (case hr => first | (go_simp; done) | (go_simp; rfl)); (case hp => exact (Reps.c3 (show Kd.M k44 _ _ _ (⟨decide (t135 > 0), (⟨t116, 0⟩ : S29)⟩ : S44) [.bool (decide (t135 > 0)), .int .i64 t116, .int .i64 0] from (k44_mkM _ _ _ (⟨decide (t135 > 0), (⟨t116, 0⟩ : S29)⟩ : S44) )) (Reps.none _ _)))
                            intro v143 w41 ho42 hb hg_ hnew_
                            clear hg_ hnew_
                            (first | rw [← Ny142.out] at ho42 | (simp only [Int.reduceToNat] at ho42; rw [← Ny142.out] at ho42))
                            have n0_ := Aside0.mk (Kd.R_elder' (by (with_reducible repeat (first | apply Kd.R_alloc | apply Kd.R_drewN | apply Kd.R_drew)); exact HO_5.out) (Kd.R_base ho42) hb)
                            have n1_ := Aside0.mk (Kd.R_below (by (with_reducible repeat (first | apply Kd.R_alloc | apply Kd.R_drewN | apply Kd.R_drew)); exact HO138.out) hb)
                            have n2_ := Aside0.mk (Kd.R_below (by (with_reducible repeat (first | apply Kd.R_alloc | apply Kd.R_drewN | apply Kd.R_drew)); exact HO141.out) hb)
                            have n3_ := Aside0.mk (Kd.R_lower (Kd.R_new' ho42 (Kd.R_lt (by (with_reducible repeat (first | apply Kd.R_alloc | apply Kd.R_drewN | apply Kd.R_drew)); exact HO_5.out))) (below_size (by repeat (first | (with_reducible first | exact HB.out | apply below_alloc | apply pw_below_drewN | apply below_drew1 | refine below_set ?_ GE117.out) | exact HB.out))))
                            have n4_ := Aside0.mk (blk_below (g := gb117) (o := .cells #[.int .i64 t116, .int .i64 0] 29 (0, 0)) (by (with_reducible repeat (first | refine blk_drewN ?_ _ | refine blk_drew ?_ | refine blk_alloc ?_ _)); exact BK117.out) hb)
                            have n5_ := Aside0.mk (below_step (by repeat (first | (with_reducible first | exact HB.out | apply below_alloc | apply pw_below_drewN | apply below_drew1 | refine below_set ?_ GE117.out) | exact HB.out)) hb)
                            clear HO_5
                            clear HO138
                            clear HO141
                            clear BK117
                            clear HB
                            have HO_5 := n0_
                            have HO138 := n1_
                            have HO141 := n2_
                            have HO144 := n3_
                            have BK117 := n4_
                            have HB := n5_
                            clear n0_ n1_ n2_ n3_ n4_ n5_
                            clear hb ho42
                            refine hK.out _ _ ⟨(blk_cell BK117.out 0).trans rfl, (blk_cell BK117.out 1).trans rfl⟩ (fun hHeld => ?_)
                            clear hK K
                            refine norm_ (a' := ?_) ?_ ?_
                            rotate_left
                            · show Act.put _ (some 52) _ = _
                              simp only [Act.put, List.setIfInBounds_toArray, List.set_cons_zero, List.set_cons_succ, i64_w, i32_w]
                              rfl
                            exact norm_ (by simp only [putAll, Act.put, List.setIfInBounds_toArray, List.set_cons_zero, List.set_cons_succ]) (hCont (.slice Ao40 y136.length co40, v140, v143) _ ⟨hHeld, (by (with_reducible repeat (first | apply Kd.R_alloc | apply Kd.R_drewN | apply Kd.R_drew)); exact Kd.R_mono HO138.out (fun _ hk => hk.2)), (by (with_reducible repeat (first | apply Kd.R_alloc | apply Kd.R_drewN | apply Kd.R_drew)); exact HO141.out), (by (with_reducible repeat (first | apply Kd.R_alloc | apply Kd.R_drewN | apply Kd.R_drew)); exact Kd.R_mono HO144.out (fun _ hk => hk.2)), (by (with_reducible repeat (first | apply Kd.R_alloc | apply Kd.R_drewN | apply Kd.R_drew)); exact Kd.R_mono HO_5.out (fun _ hk => hk.2)), (by (with_reducible repeat (first | refine blk_drewN ?_ _ | refine blk_drew ?_ | refine blk_alloc ?_ _)); exact BK117.out), (by repeat (first | (with_reducible first | exact HB.out | apply below_alloc | apply pw_below_drewN | apply below_drew1 | refine below_set ?_ GE117.out) | exact HB.out))⟩)
                          · skip
                            refine Kd.R_lit_step k44 _ 44 ?hg (N := 52) ?hd (xs := ([(⟨decide (t135 > 0), (⟨t116, 0⟩ : S29)⟩ : S44)] : List (S44))) (inner := [.bool (decide (t135 > 0)), .int .i64 t116, .int .i64 0]) (ok := fun _ => True) (okp := fun _ => True) ?hr ?hp (fun _ hk => hk) trivial (Below.refl _ _) (Nat.le_refl _) (by simp) ?_; (case hd => rfl); (case hg => rfl); (case hr => first | (go_simp; done) | (go_simp; rfl)); (case hp => exact (Reps.c3 (show Kd.M k44 _ _ _ (⟨decide (t135 > 0), (⟨t116, 0⟩ : S29)⟩ : S44) [.bool (decide (t135 > 0)), .int .i64 t116, .int .i64 0] from (k44_mkM _ _ _ (⟨decide (t135 > 0), (⟨t116, 0⟩ : S29)⟩ : S44) )) (Reps.none _ _)))
                            intro v143 w39 ho40 hb hg_ hnew_
                            clear hg_ hnew_
                            (first | rw [← Ny142.out] at ho40 | (simp only [Int.reduceToNat] at ho40; rw [← Ny142.out] at ho40))
                            have n0_ := Aside0.mk (Kd.R_below (by (with_reducible repeat (first | apply Kd.R_alloc | apply Kd.R_drewN | apply Kd.R_drew)); exact HO_4.out) hb)
                            have n1_ := Aside0.mk (Kd.R_elder' (by (with_reducible repeat (first | apply Kd.R_alloc | apply Kd.R_drewN | apply Kd.R_drew)); exact HO_5.out) (Kd.R_base ho40) hb)
                            have n2_ := Aside0.mk (Kd.R_below (by (with_reducible repeat (first | apply Kd.R_alloc | apply Kd.R_drewN | apply Kd.R_drew)); exact HO138.out) hb)
                            have n3_ := Aside0.mk (Kd.R_lower (Kd.R_new' ho40 (Kd.R_lt (by (with_reducible repeat (first | apply Kd.R_alloc | apply Kd.R_drewN | apply Kd.R_drew)); exact HO_5.out))) (below_size (by repeat (first | (with_reducible first | exact HB.out | apply below_alloc | apply pw_below_drewN | apply below_drew1 | refine below_set ?_ GE117.out) | exact HB.out))))
                            have n4_ := Aside0.mk (blk_below (g := gb117) (o := .cells #[.int .i64 t116, .int .i64 0] 29 (0, 0)) (by (with_reducible repeat (first | refine blk_drewN ?_ _ | refine blk_drew ?_ | refine blk_alloc ?_ _)); exact BK117.out) hb)
                            have n5_ := Aside0.mk (below_step (by repeat (first | (with_reducible first | exact HB.out | apply below_alloc | apply pw_below_drewN | apply below_drew1 | refine below_set ?_ GE117.out) | exact HB.out)) hb)
                            clear HO_4
                            clear HO_5
                            clear HO138
                            clear BK117
                            clear HB
                            have HO_4 := n0_
                            have HO_5 := n1_
                            have HO138 := n2_
                            have HO144 := n3_
                            have BK117 := n4_
                            have HB := n5_
                            clear n0_ n1_ n2_ n3_ n4_ n5_
                            clear hb ho40
                            obtain ⟨Ao42, co42, eo42⟩ := Kd.R_slice HO138.out
                            (first | subst eo42 | (injection eo42 with f1_ f2_ f3_; have f4_ := f1_.symm; have f5_ := f3_.symm; clear f1_ f2_ f3_; subst f4_; subst f5_))
                            refine hK.out _ _ ⟨(blk_cell BK117.out 0).trans rfl, (blk_cell BK117.out 1).trans rfl⟩ (fun hHeld => ?_)
                            clear hK K
                            refine norm_ (a' := ?_) ?_ ?_
                            rotate_left
                            · show Act.put _ (some 52) _ = _
                              simp only [Act.put, List.setIfInBounds_toArray, List.set_cons_zero, List.set_cons_succ, i64_w, i32_w]
                              rfl
                            refine one_ (i := 5) (N := some 47) #[true, true, true, true, true, true, true, true, true, true, true, false, false, false] rfl rfl (one_of HT_.out (by kernel_rfl)) (by decide) (fun K hK => ?_)
                            refine Kd.R_append_rows_step k31 (w0 := w) w.heap.size (by rfl) (.tmp 42) (.tmp 46) 24 31 (.agg #[(.bool false), (.int .i64 0), (.int .i64 0)]) 24 rfl Try.underlying24 info31 rfl (by decide) (by omega) (.slice Ao33 x4_1.length co33) x4_1 y136 _ _ _ (fun k_ => some k_ ≠ (.slice Ao42 y136.length co42 : Value).ownBlock) (fun _ => False) rfl rfl ?aO ?aR (fun _ _ h => h) (fun _ h => h.elim) ?aF ?aB ?aS ?aL ?_
                            (case aR => repeat (first | exact (Kd.R_reads' HO138.out).2.2 | (with_reducible refine Kd.C_alloc ?_ _) | (with_reducible refine Kd.C_drewN ?_ _) | (with_reducible refine Kd.C_drew ?_)))
                            (case aB => exact (by repeat (first | (with_reducible first | exact HB.out | apply below_alloc | apply pw_below_drewN | apply below_drew1 | refine below_set ?_ GE117.out) | exact HB.out)))
                            (case aF => exact (fun k_ hk => Kd.fresh' (Kd.R_lt (by (with_reducible repeat (first | apply Kd.R_alloc | apply Kd.R_drewN | apply Kd.R_drew)); exact HO138.out)) k_ hk))
                            (case aO => exact (by (with_reducible repeat (first | apply Kd.R_alloc | apply Kd.R_drewN | apply Kd.R_drew)); exact Kd.R_mono HO_4.out (fun _ hk => hk.2)))
                            (case aS => exact (below_size (by repeat (first | (with_reducible first | exact HB.out | apply below_alloc | apply pw_below_drewN | apply below_drew1 | refine below_set ?_ GE117.out) | exact HB.out))))
                            (case aL => have := LMc29.out; omega)
                            intro v140 w41 ho hb hg hat
                            rw [← Ny139.out] at ho
                            have n0_ := Aside0.mk (Kd.R_over' (by (with_reducible repeat (first | apply Kd.R_alloc | apply Kd.R_drewN | apply Kd.R_drew)); exact HO_5.out) (Kd.R_typed (by (with_reducible repeat (first | apply Kd.R_alloc | apply Kd.R_drewN | apply Kd.R_drew)); exact HO_4.out)) (by decide) hg)
                            have n1_ := Aside0.mk (blk_grown (g := gb117) (o := .cells #[.int .i64 t116, .int .i64 0] 29 (0, 0)) (by (with_reducible repeat (first | refine blk_drewN ?_ _ | refine blk_drew ?_ | refine blk_alloc ?_ _)); exact BK117.out) hg (Kd.R_ne HO_4.out BK117.out (by decide)))
                            have n2_ := Aside0.mk (Kd.R_after (ok := (fun _ => True)) (by (with_reducible repeat (first | apply Kd.R_alloc | apply Kd.R_drewN | apply Kd.R_drew)); exact HO138.out) hg hat)
                            have n3_ := Aside0.mk (Kd.R_over' (by (with_reducible repeat (first | apply Kd.R_alloc | apply Kd.R_drewN | apply Kd.R_drew)); exact HO144.out) (Kd.R_typed (by (with_reducible repeat (first | apply Kd.R_alloc | apply Kd.R_drewN | apply Kd.R_drew)); exact HO_4.out)) (by decide) hg)
                            have n4_ := Aside0.mk (hb)
                            have n5_ := Aside0.mk (ho)
                            clear HO_5
                            clear BK117
                            clear HO138
                            clear HO144
                            clear HB
                            clear HO_4
                            have HO_5 := n0_
                            have BK117 := n1_
                            have HO138 := n2_
                            have HO144 := n3_
                            have HB := n4_
                            have HO141 := n5_
                            clear n0_ n1_ n2_ n3_ n4_ n5_
                            clear ho hb hg hat
                            refine hK.out _ _ ⟨(blk_cell BK117.out 0).trans rfl, (blk_cell BK117.out 1).trans rfl⟩ (fun hHeld => ?_)
                            clear hK K
                            refine norm_ (a' := ?_) ?_ ?_
                            rotate_left
                            · show Act.put _ (some 47) _ = _
                              simp only [Act.put, List.setIfInBounds_toArray, List.set_cons_zero, List.set_cons_succ, i64_w, i32_w]
                              rfl
                            exact norm_ (by simp only [putAll, Act.put, List.setIfInBounds_toArray, List.set_cons_zero, List.set_cons_succ]) (hCont (.slice Ao42 y136.length co42, v140, v143) _ ⟨hHeld, (by (with_reducible repeat (first | apply Kd.R_alloc | apply Kd.R_drewN | apply Kd.R_drew)); exact Kd.R_mono HO138.out (fun _ hk => hk.2)), (by (with_reducible repeat (first | apply Kd.R_alloc | apply Kd.R_drewN | apply Kd.R_drew)); exact HO141.out), (by (with_reducible repeat (first | apply Kd.R_alloc | apply Kd.R_drewN | apply Kd.R_drew)); exact Kd.R_mono HO144.out (fun _ hk => hk.2)), (by (with_reducible repeat (first | apply Kd.R_alloc | apply Kd.R_drewN | apply Kd.R_drew)); exact Kd.R_mono HO_5.out (fun _ hk => hk.2)), (by (with_reducible repeat (first | refine blk_drewN ?_ _ | refine blk_drew ?_ | refine blk_alloc ?_ _)); exact BK117.out), (by repeat (first | (with_reducible first | exact HB.out | apply below_alloc | apply pw_below_drewN | apply below_drew1 | refine below_set ?_ GE117.out) | exact HB.out))⟩)
                        · skip
                          refine Kd.R_lit_step k44 _ 44 ?hg (N := 52) ?hd (xs := ([(⟨decide (t135 > 0), (⟨t116, 0⟩ : S29)⟩ : S44)] : List (S44))) (inner := [.bool (decide (t135 > 0)), .int .i64 t116, .int .i64 0]) (ok := fun _ => True) (okp := fun _ => True) ?hr ?hp (fun _ hk => hk) trivial (Below.refl _ _) (Nat.le_refl _) (by simp) ?_; (case hd => rfl); (case hg => rfl); (case hr => first | (go_simp; done) | (go_simp; rfl)); (case hp => exact (Reps.c3 (show Kd.M k44 _ _ _ (⟨decide (t135 > 0), (⟨t116, 0⟩ : S29)⟩ : S44) [.bool (decide (t135 > 0)), .int .i64 t116, .int .i64 0] from (k44_mkM _ _ _ (⟨decide (t135 > 0), (⟨t116, 0⟩ : S29)⟩ : S44) )) (Reps.none _ _)))
                          intro v143 w37 ho38 hb hg_ hnew_
                          clear hg_ hnew_
                          (first | rw [← Ny142.out] at ho38 | (simp only [Int.reduceToNat] at ho38; rw [← Ny142.out] at ho38))
                          have n0_ := Aside0.mk (Kd.R_below (by (with_reducible repeat (first | apply Kd.R_alloc | apply Kd.R_drewN | apply Kd.R_drew)); exact HO_4.out) hb)
                          have n1_ := Aside0.mk (Kd.R_elder' (by (with_reducible repeat (first | apply Kd.R_alloc | apply Kd.R_drewN | apply Kd.R_drew)); exact HO_5.out) (Kd.R_base ho38) hb)
                          have n2_ := Aside0.mk (Kd.R_lower (Kd.R_new' ho38 (Kd.R_lt (by (with_reducible repeat (first | apply Kd.R_alloc | apply Kd.R_drewN | apply Kd.R_drew)); exact HO_5.out))) (below_size (by repeat (first | (with_reducible first | exact HB.out | apply below_alloc | apply pw_below_drewN | apply below_drew1 | refine below_set ?_ GE117.out) | exact HB.out))))
                          have n3_ := Aside0.mk (blk_below (g := gb117) (o := .cells #[.int .i64 t116, .int .i64 0] 29 (0, 0)) (by (with_reducible repeat (first | refine blk_drewN ?_ _ | refine blk_drew ?_ | refine blk_alloc ?_ _)); exact BK117.out) hb)
                          have n4_ := Aside0.mk (below_step (by repeat (first | (with_reducible first | exact HB.out | apply below_alloc | apply pw_below_drewN | apply below_drew1 | refine below_set ?_ GE117.out) | exact HB.out)) hb)
                          clear HO_4
                          clear HO_5
                          clear BK117
                          clear HB
                          have HO_4 := n0_
                          have HO_5 := n1_
                          have HO144 := n2_
                          have BK117 := n3_
                          have HB := n4_
                          clear n0_ n1_ n2_ n3_ n4_
                          clear hb ho38
                          refine hK.out _ _ ⟨(blk_cell BK117.out 0).trans rfl, (blk_cell BK117.out 1).trans rfl⟩ (fun hHeld => ?_)
                          clear hK K
                          refine norm_ (a' := ?_) ?_ ?_
                          rotate_left
                          · show Act.put _ (some 52) _ = _
                            simp only [Act.put, List.setIfInBounds_toArray, List.set_cons_zero, List.set_cons_succ, i64_w, i32_w]
                            rfl
                          refine one_ (i := 4) (N := some 46) #[true, true, true, true, true, false, true, true, true, true, true, false, false, false] rfl rfl (one_of HT_.out (by kernel_rfl)) (by decide) (fun K hK => ?_)
                          refine Kd.R_lit_step k31 _ 31 ?hg (N := 46) ?hd (xs := ([(⟨decide (t135 > 0), (⟨t116, 0⟩ : S29)⟩ : S31)] : List (S31))) (inner := [.bool (decide (t135 > 0)), .int .i64 t116, .int .i64 0]) (ok := fun _ => True) (okp := fun _ => True) ?hr ?hp (fun _ hk => hk) trivial (Below.refl _ _) (Nat.le_refl _) (by simp) ?_; (case hd => rfl); (case hg => rfl); (case hr => first | (go_simp; done) | (go_simp; rfl)); (case hp => exact (Reps.c3 (show Kd.M k31 _ _ _ (⟨decide (t135 > 0), (⟨t116, 0⟩ : S29)⟩ : S31) [.bool (decide (t135 > 0)), .int .i64 t116, .int .i64 0] from (k31_mkM _ _ _ (⟨decide (t135 > 0), (⟨t116, 0⟩ : S29)⟩ : S31) )) (Reps.none _ _)))
                          intro v137 w39 ho40 hb hg_ hnew_
                          clear hg_ hnew_
                          (first | rw [← Ny136.out] at ho40 | (simp only [Int.reduceToNat] at ho40; rw [← Ny136.out] at ho40))
                          have n0_ := Aside0.mk (Kd.R_elder' (by (with_reducible repeat (first | apply Kd.R_alloc | apply Kd.R_drewN | apply Kd.R_drew)); exact HO_4.out) (Kd.R_base ho40) hb)
                          have n1_ := Aside0.mk (Kd.R_below (by (with_reducible repeat (first | apply Kd.R_alloc | apply Kd.R_drewN | apply Kd.R_drew)); exact HO_5.out) hb)
                          have n2_ := Aside0.mk (Kd.R_below (by (with_reducible repeat (first | apply Kd.R_alloc | apply Kd.R_drewN | apply Kd.R_drew)); exact HO144.out) hb)
                          have n3_ := Aside0.mk (Kd.R_lower (Kd.R_new' ho40 (Kd.R_lt (by (with_reducible repeat (first | apply Kd.R_alloc | apply Kd.R_drewN | apply Kd.R_drew)); exact HO_4.out))) (below_size (by repeat (first | (with_reducible first | exact HB.out | apply below_alloc | apply pw_below_drewN | apply below_drew1 | refine below_set ?_ GE117.out) | exact HB.out))))
                          have n4_ := Aside0.mk (blk_below (g := gb117) (o := .cells #[.int .i64 t116, .int .i64 0] 29 (0, 0)) (by (with_reducible repeat (first | refine blk_drewN ?_ _ | refine blk_drew ?_ | refine blk_alloc ?_ _)); exact BK117.out) hb)
                          have n5_ := Aside0.mk (below_step (by repeat (first | (with_reducible first | exact HB.out | apply below_alloc | apply pw_below_drewN | apply below_drew1 | refine below_set ?_ GE117.out) | exact HB.out)) hb)
                          clear HO_4
                          clear HO_5
                          clear HO144
                          clear BK117
                          clear HB
                          have HO_4 := n0_
                          have HO_5 := n1_
                          have HO144 := n2_
                          have HO138 := n3_
                          have BK117 := n4_
                          have HB := n5_
                          clear n0_ n1_ n2_ n3_ n4_ n5_
                          clear hb ho40
                          obtain ⟨Ao42, co42, eo42⟩ := Kd.R_slice HO138.out
                          (first | subst eo42 | (injection eo42 with f1_ f2_ f3_; have f4_ := f1_.symm; have f5_ := f3_.symm; clear f1_ f2_ f3_; subst f4_; subst f5_))
                          refine hK.out _ _ ⟨(blk_cell BK117.out 0).trans rfl, (blk_cell BK117.out 1).trans rfl⟩ (fun hHeld => ?_)
                          clear hK K
                          refine norm_ (a' := ?_) ?_ ?_
                          rotate_left
                          · show Act.put _ (some 46) _ = _
                            simp only [Act.put, List.setIfInBounds_toArray, List.set_cons_zero, List.set_cons_succ, i64_w, i32_w]
                            rfl
                          refine one_ (i := 5) (N := some 47) #[true, true, true, true, true, true, true, true, true, true, true, false, false, false] rfl rfl (one_of HT_.out (by kernel_rfl)) (by decide) (fun K hK => ?_)
                          refine Kd.R_append_rows_step k31 (w0 := w) w.heap.size (by rfl) (.tmp 42) (.tmp 46) 24 31 (.agg #[(.bool false), (.int .i64 0), (.int .i64 0)]) 24 rfl Try.underlying24 info31 rfl (by decide) (by omega) (.slice Ao33 x4_1.length co33) x4_1 y136 _ _ _ (fun k_ => some k_ ≠ (.slice Ao42 y136.length co42 : Value).ownBlock) (fun _ => False) rfl rfl ?aO ?aR (fun _ _ h => h) (fun _ h => h.elim) ?aF ?aB ?aS ?aL ?_
                          (case aR => repeat (first | exact (Kd.R_reads' HO138.out).2.2 | (with_reducible refine Kd.C_alloc ?_ _) | (with_reducible refine Kd.C_drewN ?_ _) | (with_reducible refine Kd.C_drew ?_)))
                          (case aB => exact (by repeat (first | (with_reducible first | exact HB.out | apply below_alloc | apply pw_below_drewN | apply below_drew1 | refine below_set ?_ GE117.out) | exact HB.out)))
                          (case aF => exact (fun k_ hk => Kd.fresh' (Kd.R_lt (by (with_reducible repeat (first | apply Kd.R_alloc | apply Kd.R_drewN | apply Kd.R_drew)); exact HO138.out)) k_ hk))
                          (case aO => exact (by (with_reducible repeat (first | apply Kd.R_alloc | apply Kd.R_drewN | apply Kd.R_drew)); exact Kd.R_mono HO_4.out (fun _ hk => hk.2)))
                          (case aS => exact (below_size (by repeat (first | (with_reducible first | exact HB.out | apply below_alloc | apply pw_below_drewN | apply below_drew1 | refine below_set ?_ GE117.out) | exact HB.out))))
                          (case aL => have := LMc29.out; omega)
                          intro v140 w41 ho hb hg hat
                          rw [← Ny139.out] at ho
                          have n0_ := Aside0.mk (Kd.R_over' (by (with_reducible repeat (first | apply Kd.R_alloc | apply Kd.R_drewN | apply Kd.R_drew)); exact HO_5.out) (Kd.R_typed (by (with_reducible repeat (first | apply Kd.R_alloc | apply Kd.R_drewN | apply Kd.R_drew)); exact HO_4.out)) (by decide) hg)
                          have n1_ := Aside0.mk (blk_grown (g := gb117) (o := .cells #[.int .i64 t116, .int .i64 0] 29 (0, 0)) (by (with_reducible repeat (first | refine blk_drewN ?_ _ | refine blk_drew ?_ | refine blk_alloc ?_ _)); exact BK117.out) hg (Kd.R_ne HO_4.out BK117.out (by decide)))
                          have n2_ := Aside0.mk (Kd.R_over' (by (with_reducible repeat (first | apply Kd.R_alloc | apply Kd.R_drewN | apply Kd.R_drew)); exact HO144.out) (Kd.R_typed (by (with_reducible repeat (first | apply Kd.R_alloc | apply Kd.R_drewN | apply Kd.R_drew)); exact HO_4.out)) (by decide) hg)
                          have n3_ := Aside0.mk (Kd.R_after (ok := (fun _ => True)) (by (with_reducible repeat (first | apply Kd.R_alloc | apply Kd.R_drewN | apply Kd.R_drew)); exact HO138.out) hg hat)
                          have n4_ := Aside0.mk (hb)
                          have n5_ := Aside0.mk (ho)
                          clear HO_5
                          clear BK117
                          clear HO144
                          clear HO138
                          clear HB
                          clear HO_4
                          have HO_5 := n0_
                          have BK117 := n1_
                          have HO144 := n2_
                          have HO138 := n3_
                          have HB := n4_
                          have HO141 := n5_
                          clear n0_ n1_ n2_ n3_ n4_ n5_
                          clear ho hb hg hat
                          refine hK.out _ _ ⟨(blk_cell BK117.out 0).trans rfl, (blk_cell BK117.out 1).trans rfl⟩ (fun hHeld => ?_)
                          clear hK K
                          refine norm_ (a' := ?_) ?_ ?_
                          rotate_left
                          · show Act.put _ (some 47) _ = _
                            simp only [Act.put, List.setIfInBounds_toArray, List.set_cons_zero, List.set_cons_succ, i64_w, i32_w]
                            rfl
                          exact norm_ (by simp only [putAll, Act.put, List.setIfInBounds_toArray, List.set_cons_zero, List.set_cons_succ]) (hCont (.slice Ao42 y136.length co42, v140, v143) _ ⟨hHeld, (by (with_reducible repeat (first | apply Kd.R_alloc | apply Kd.R_drewN | apply Kd.R_drew)); exact Kd.R_mono HO138.out (fun _ hk => hk.2)), (by (with_reducible repeat (first | apply Kd.R_alloc | apply Kd.R_drewN | apply Kd.R_drew)); exact HO141.out), (by (with_reducible repeat (first | apply Kd.R_alloc | apply Kd.R_drewN | apply Kd.R_drew)); exact Kd.R_mono HO144.out (fun _ hk => hk.2)), (by (with_reducible repeat (first | apply Kd.R_alloc | apply Kd.R_drewN | apply Kd.R_drew)); exact Kd.R_mono HO_5.out (fun _ hk => hk.2)), (by (with_reducible repeat (first | refine blk_drewN ?_ _ | refine blk_drew ?_ | refine blk_alloc ?_ _)); exact BK117.out), (by repeat (first | (with_reducible first | exact HB.out | apply below_alloc | apply pw_below_drewN | apply below_drew1 | refine below_set ?_ GE117.out) | exact HB.out))⟩)
                      rintro ⟨v137, v140, v143⟩ w43 ⟨hS_, h0_, h1_, h2_, h3_, h4_, h5_⟩
                      have n0_ : Aside0 (Kd.R k31 31 w43 w.heap.size (fun k_ => some k_ ≠ (v140 : Value).ownBlock) v137 y136) := ⟨h0_⟩
                      have n1_ : Aside0 (Kd.R k31 31 w43 w.heap.size (fun k_ => some k_ ≠ (v137 : Value).ownBlock) v140 y139) := ⟨h1_⟩
                      have n2_ : Aside0 (Kd.R k44 44 w43 w.heap.size (fun k_ => some k_ ≠ (.slice Ao34 x5_1.length co34 : Value).ownBlock) v143 y142) := ⟨h2_⟩
                      have n3_ : Aside0 (Kd.R k44 44 w43 w.heap.size (fun k_ => some k_ ≠ (v143 : Value).ownBlock) (.slice Ao34 x5_1.length co34) x5_1) := ⟨h3_⟩
                      have n4_ : Aside0 (w43.heap[gb117]? = some (.cells #[.int .i64 t116, .int .i64 0] 29 (0, 0))) := ⟨h4_⟩
                      have n5_ : Aside0 (Below w.heap.size w w43) := ⟨h5_⟩
                      clear HO_4
                      clear HO_5
                      clear BK117
                      clear HB
                      clear h0_ h1_ h2_ h3_ h4_ h5_
                      have HO138 := n0_
                      have HO141 := n1_
                      have HO144 := n2_
                      have HO_5 := n3_
                      have BK117 := n4_
                      have HB := n5_
                      clear n0_ n1_ n2_ n3_ n4_ n5_
                      have hHeld : w43.cell? ⟨gb117, 0, none⟩ = some (.int .i64 t116) ∧ w43.cell? ⟨gb117, 1, none⟩ = some (.int .i64 0) := hS_
                      obtain ⟨Ao45, co45, eo45⟩ := Kd.R_slice HO144.out
                      (first | subst eo45 | (injection eo45 with f1_ f2_ f3_; have f4_ := f1_.symm; have f5_ := f3_.symm; clear f1_ f2_ f3_; subst f4_; subst f5_))
                      refine norm_ (a' := ?_) ?_ ?_
                      rotate_left
                      · simp only [putAll, Act.put, List.setIfInBounds_toArray, List.set_cons_zero, List.set_cons_succ]
                        rfl
                      refine one_ (i := 11) (N := some 53) #[true, true, true, true, true, true, true, true, true, true, true, true, false, false] rfl rfl (one_of HT_.out (by kernel_rfl)) (by decide) (fun K hK => ?_)
                      refine Kd.R_append_rows_step k44 (w0 := w) w.heap.size (by rfl) (.tmp 48) (.tmp 52) 25 44 (.agg #[(.bool false), (.int .i64 0), (.int .i64 0)]) 24 rfl Try.underlying25 info44 rfl (by decide) (by omega) (.slice Ao34 x5_1.length co34) x5_1 y142 _ _ _ (fun k_ => some k_ ≠ (.slice Ao45 y142.length co45 : Value).ownBlock) (fun _ => False) rfl rfl ?aO ?aR (fun _ _ h => h) (fun _ h => h.elim) ?aF ?aB ?aS ?aL ?_
                      (case aR => repeat (first | exact (Kd.R_reads' HO144.out).2.2 | (with_reducible refine Kd.C_alloc ?_ _) | (with_reducible refine Kd.C_drewN ?_ _) | (with_reducible refine Kd.C_drew ?_)))
                      (case aB => exact (by repeat (first | (with_reducible first | exact HB.out | apply below_alloc | apply pw_below_drewN | apply below_drew1 | refine below_set ?_ GE117.out) | exact HB.out)))
                      (case aF => exact (fun k_ hk => Kd.fresh' (Kd.R_lt (by (with_reducible repeat (first | apply Kd.R_alloc | apply Kd.R_drewN | apply Kd.R_drew)); exact HO144.out)) k_ hk))
                      (case aO => exact (by (with_reducible repeat (first | apply Kd.R_alloc | apply Kd.R_drewN | apply Kd.R_drew)); exact HO_5.out))
                      (case aS => exact (below_size (by repeat (first | (with_reducible first | exact HB.out | apply below_alloc | apply pw_below_drewN | apply below_drew1 | refine below_set ?_ GE117.out) | exact HB.out))))
                      (case aL => have := LMc30.out; omega)
                      intro v146 w44 ho hb hg hat
                      rw [← Ny145.out] at ho
                      have n0_ := Aside0.mk (blk_grown (g := gb117) (o := .cells #[.int .i64 t116, .int .i64 0] 29 (0, 0)) (by (with_reducible repeat (first | refine blk_drewN ?_ _ | refine blk_drew ?_ | refine blk_alloc ?_ _)); exact BK117.out) hg (Kd.R_ne HO_5.out BK117.out (by decide)))
                      have n1_ := Aside0.mk (Kd.R_over' (by (with_reducible repeat (first | apply Kd.R_alloc | apply Kd.R_drewN | apply Kd.R_drew)); exact HO138.out) (Kd.R_typed (by (with_reducible repeat (first | apply Kd.R_alloc | apply Kd.R_drewN | apply Kd.R_drew)); exact HO_5.out)) (by decide) hg)
                      have n2_ := Aside0.mk (Kd.R_over' (by (with_reducible repeat (first | apply Kd.R_alloc | apply Kd.R_drewN | apply Kd.R_drew)); exact HO141.out) (Kd.R_typed (by (with_reducible repeat (first | apply Kd.R_alloc | apply Kd.R_drewN | apply Kd.R_drew)); exact HO_5.out)) (by decide) hg)
                      have n3_ := Aside0.mk (Kd.R_after (ok := (fun _ => True)) (by (with_reducible repeat (first | apply Kd.R_alloc | apply Kd.R_drewN | apply Kd.R_drew)); exact Kd.R_mono HO144.out (fun _ hk => ⟨trivial, hk⟩)) hg hat)
                      have n4_ := Aside0.mk (hb)
                      have n5_ := Aside0.mk (ho)
                      clear BK117
                      clear HO138
                      clear HO141
                      clear HO144
                      clear HB
                      clear HO_5
                      have BK117 := n0_
                      have HO138 := n1_
                      have HO141 := n2_
                      have HO144 := n3_
                      have HB := n4_
                      have HO147 := n5_
                      clear n0_ n1_ n2_ n3_ n4_ n5_
                      clear ho hb hg hat
                      refine hK.out _ _ ⟨(blk_cell BK117.out 0).trans rfl, (blk_cell BK117.out 1).trans rfl⟩ (fun hHeld => ?_)
                      clear hK K
                      refine norm_ (a' := ?_) ?_ ?_
                      rotate_left
                      · show Act.put _ (some 53) _ = _
                        simp only [Act.put, List.setIfInBounds_toArray, List.set_cons_zero, List.set_cons_succ, i64_w, i32_w]
                        rfl
                      refine pure_ (i := 12) (N := some 4) (v := ?_) (a' := ?_) #[true, true, true, true, true, true, true, true, true, true, true, true, true, false] rfl rfl (any_of HT_.out (by kernel_rfl)) (fun _ _ _ h => h) (Or.inl ⟨by rfl, ?_⟩) ?_ ?_
                      rotate_left
                      · intro w'
                        go_simp
                        with_reducible rfl
                      rotate_left
                      · simp only [Act.put, List.setIfInBounds_toArray, List.set_cons_zero, List.set_cons_succ, i64_w, i32_w]
                        rfl
                      refine pure_ (i := 13) (N := some 5) (v := ?_) (a' := ?_) #[true, true, true, true, true, true, true, true, true, true, true, true, true, true] rfl rfl (any_of HT_.out (by kernel_rfl)) (fun _ _ _ h => h) (Or.inl ⟨by rfl, ?_⟩) ?_ ?_
                      rotate_left
                      · intro w'
                        go_simp
                        with_reducible rfl
                      rotate_left
                      · simp only [Act.put, List.setIfInBounds_toArray, List.set_cons_zero, List.set_cons_succ, i64_w, i32_w]
                        rfl
                      refine done_ (done_of HT_.out (by kernel_rfl)) ?_
                      try go_wp2
                      go_roundg kj1
                      case measure => have := HK1.out; have := HJ1.out; omega
                      case rel => exact ⟨(y139), (y145), (wrap64 (x6_1 + 1)), (by first | rfl | (simp; done) | (simp [*]; done)), H', ⟨by have := HK1.out; have := HJ1.out; omega⟩, ⟨by (with_reducible repeat (first | apply Kd.R_alloc | apply Kd.R_drewN | apply Kd.R_drew)); exact Kd.R_mono HO141.out (fun _ hk => trivial)⟩, ⟨by (with_reducible repeat (first | apply Kd.R_alloc | apply Kd.R_drewN | apply Kd.R_drew)); exact Kd.R_mono HO147.out (fun _ hk => trivial)⟩, ⟨by repeat (first | (with_reducible first | exact HB.out | apply below_alloc | apply pw_below_drewN | apply below_drew1 | refine below_set ?_ GE117.out) | exact HB.out)⟩⟩
                    · rw [if_neg c30] at H
                      exact absurd H (by simp)
                  · rw [if_neg c29] at H
                    exact absurd H (by simp)
              · rw [if_neg c6] at H
                exact absurd H (by simp)
            · rw [if_neg c5] at H
              exact absurd H (by simp)
          · replace c4 := Bool.eq_false_iff.mpr c4
            subst c4
            have H1 : (some (x4_1, x5_1)) = some (r1, r2) := by rw [if_neg (show ¬ (false = true) by decide)] at H; exact H
            clear H
            have H := H1
            clear H1
            simp only [Option.some.injEq, Prod.mk.injEq] at H
            obtain ⟨rfl, rfl⟩ := H
            go_wp2
            go_ret2
            exact ⟨_, _, by first | rfl | (simp [errW_none, errW_some] <;> rfl) | (simp [*, errW_none, errW_some] <;> rfl), by (with_reducible repeat (first | apply Kd.R_alloc | apply Kd.R_drewN | apply Kd.R_drew)); exact HO_4.out, by (with_reducible repeat (first | apply Kd.R_alloc | apply Kd.R_drewN | apply Kd.R_drew)); exact HO_5.out, by repeat (first | (with_reducible first | exact HB.out | apply below_alloc | apply pw_below_drewN | apply below_drew1) | exact HB.out)⟩

end Go.Proofs.Ytghdfppllknabaa.PVoteGrows
