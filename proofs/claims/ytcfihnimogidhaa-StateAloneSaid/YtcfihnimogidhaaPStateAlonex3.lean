/- Functions that the claim reaches, each as a plain Lean function with a proof that the Go call comes to what it answers, written by the printer of the kit for this claim over stand-in bodies whose own contracts are proved by hand. Conditions: the readings stated in each theorem. -/
import Derived.Test.YtcfihnimogidhaaPStateAlonex0
import Derived.Test.YtcfihnimogidhaaPStateAlonex1
import Derived.Test.YtcfihnimogidhaaPStateAlonex2
namespace Go.Proofs.Ytcfihnimogidhaa.PStateAlone
open Go.RowKit Go.Proofs.YtcfihnimogidhaaW.PrintWords Go.Proofs.YtcfihnimogidhaaW.PrintLast Go.Proofs.YtcfihnimogidhaaW.PrintMore
attribute [local go_sem] max2_int min2_int max_two min_two max_three min_three max_four min_four   -- for this text's walks alone
set_option linter.unusedVariables false
set_option linter.unusedSimpArgs false

/-! ### plaitinglaw13_within: function 11 -/
def plaitinglaw13_within.f (a0 : Int) (a1 : Int) : Option (Int) := if a1 = 0 then (none) else (if (Int.tmod a0 a1) < 0 then (some (wrap64 ((Int.tmod a0 a1) + a1))) else (some (Int.tmod a0 a1)))
set_option maxHeartbeats 8000000 in
set_option maxRecDepth 100000 in
theorem plaitinglaw13_within.calls (a0 : Int) (a1 : Int) (r : Int) (w : World) (h : plaitinglaw13_within.f a0 a1 = some r) :
    Calls Try.prog 11 #[.int .i64 a0, .int .i64 a1] w fun e w' => e = .returned (.int .i64 r) ∧ Drawn0 w w' := by
  have H : (if a1 = 0 then (none) else (if (Int.tmod a0 a1) < 0 then (some (wrap64 ((Int.tmod a0 a1) + a1))) else (some (Int.tmod a0 a1)))) = some r := h
  clear h
  by_cases c3 : a1 = 0
  · rw [if_pos c3] at H
    exact absurd H (by simp)
  · rw [if_neg c3] at H
    have c3b0 : (a1 == 0) = false := beq_eq_false_iff_ne.mpr c3
    have c3b1 : (a1 != 0) = true := bne_iff_ne.mpr c3
    by_cases c4 : (Int.tmod a0 a1) < 0
    · rw [if_pos c4] at H
      have c4b0 : decide ((Int.tmod a0 a1) < 0) = true := decide_eq_true c4
      clear c4
      obtain rfl := Option.some.inj H
      go_enter Try.func11, Try.ntmps11
      go_wp2
      go_ret
      exact ⟨by first | rfl | (simp; done) | (simp [*]; done), by repeat (first | exact Drawn0.refl _ | apply Drawn0.step)⟩
    · rw [if_neg c4] at H
      have c4b0 : decide ((Int.tmod a0 a1) < 0) = false := decide_eq_false c4
      clear c4
      obtain rfl := Option.some.inj H
      go_enter Try.func11, Try.ntmps11
      go_wp2
      go_ret
      exact ⟨by first | rfl | (simp; done) | (simp [*]; done), by repeat (first | exact Drawn0.refl _ | apply Drawn0.step)⟩

/-! ### plaitinglaw13_StateAlone: function 4 -/
def plaitinglaw13_StateAlone.l0 : Nat → Int → Int → Int → Int → Int → Int → Int → Int → Int → Int → Int → List Int → Option (Bool)
  | 0, _, _, _, _, _, _, _, _, _, _, _, _ => none
  | k + 1, x2, x8, x9, x10, x11, x12, x139000, x139001, x139002, x139003, x139004, x139005 => (plaitinglaw13_within.f x2 100).bind fun t140 => (if x12 < t140 then (if x9 = 0 then (none) else (if (Int.tmod x12 x9) = (wrap64 (x139000 + x8)) then (if x10 = 2 then ((state_Next.f x139000 x139001 x139002 x139003 x139004 x139005 x8 x10 x11 0).bind fun bt141 => (plaitinglaw13_StateAlone.l0 k x2 x8 x9 bt141.1 bt141.2 (wrap64 (x12 + 1)) x139000 x139001 x139002 x139003 x139004 x139005)) else (some false)) else (if (Int.tmod x12 x9) > (wrap64 (x139000 + x8)) then (if x10 = 3 then ((state_Next.f x139000 x139001 x139002 x139003 x139004 x139005 x8 x10 x11 0).bind fun bt143 => (plaitinglaw13_StateAlone.l0 k x2 x8 x9 bt143.1 bt143.2 (wrap64 (x12 + 1)) x139000 x139001 x139002 x139003 x139004 x139005)) else (some false)) else (if x10 = 1 then ((state_Next.f x139000 x139001 x139002 x139003 x139004 x139005 x8 x10 x11 0).bind fun bt145 => (plaitinglaw13_StateAlone.l0 k x2 x8 x9 bt145.1 bt145.2 (wrap64 (x12 + 1)) x139000 x139001 x139002 x139003 x139004 x139005)) else (some false))))) else (some true))
def plaitinglaw13_StateAlone.f (k : Nat) (a0_0 : Int) (a0_1 : Int) (a0_2 : Int) (a0_3 : Int) (a0_4 : Int) (l0_5 : List Int) (a1 : Int) (a2 : Int) : Option (Bool) := (plaitinglaw13_known.f).bind fun t129 => (if t129 = true then ((plaitinglaw3_Make.f k a0_0 a0_1 a0_2 a0_3 a0_4 l0_5).bind fun bt130 => ((plaitinglaw13_within.f a1 bt130.1).bind fun t139 => (plaitinglaw13_StateAlone.l0 k a2 t139 (wrap64 ((wrap64 ((wrap64 (bt130.1 + t139)) + 1)) + 3)) 1 0 0 bt130.1 bt130.2.1 bt130.2.2.1 bt130.2.2.2.1 bt130.2.2.2.2.1 bt130.2.2.2.2.2))) else (some false))
theorem plaitinglaw13_StateAlone.mono_l : ∀ k, (∀ y0 y1 y2 y3 y4 y5 y6 y7 y8 y9 y10 y11, LeO (plaitinglaw13_StateAlone.l0 k y0 y1 y2 y3 y4 y5 y6 y7 y8 y9 y10 y11) (plaitinglaw13_StateAlone.l0 (k + 1) y0 y1 y2 y3 y4 y5 y6 y7 y8 y9 y10 y11))
  | 0 => fun _ _ _ _ _ _ _ _ _ _ _ _ r h => by simp [plaitinglaw13_StateAlone.l0] at h
  | k + 1 => by
    have ih0 := plaitinglaw13_StateAlone.mono_l k
    · intro y0 y1 y2 y3 y4 y5 y6 y7 y8 y9 y10 y11
      unfold plaitinglaw13_StateAlone.l0
      repeat' first
      | (with_reducible exact ih0 _ _ _ _ _ _ _ _ _ _ _ _)
      | (with_reducible exact plaitinglaw3_Make.mono _ _ _ _ _ _ _)
      | (with_reducible exact LeO.refl _)
      | (with_reducible exact LeO.none _)
      | (with_reducible refine LeO.ite ?_ ?_)
      | (with_reducible refine LeO.bind ?_ (fun _ => ?_))
      | exact ih0 _ _ _ _ _ _ _ _ _ _ _ _
      | exact plaitinglaw3_Make.mono _ _ _ _ _ _ _
      | exact LeO.none _
      | refine LeO.ite ?_ ?_
      | refine LeO.bind ?_ (fun _ => ?_)
theorem plaitinglaw13_StateAlone.mono : ∀ a0 a1 a2 a3 a4 a5 a6 a7 k, LeO (plaitinglaw13_StateAlone.f k a0 a1 a2 a3 a4 a5 a6 a7) (plaitinglaw13_StateAlone.f (k + 1) a0 a1 a2 a3 a4 a5 a6 a7) := by
  intro a0 a1 a2 a3 a4 a5 a6 a7 k
  have ih0 := plaitinglaw13_StateAlone.mono_l k
  unfold plaitinglaw13_StateAlone.f
  repeat' first
      | (with_reducible exact ih0 _ _ _ _ _ _ _ _ _ _ _ _)
      | (with_reducible exact plaitinglaw3_Make.mono _ _ _ _ _ _ _)
      | (with_reducible exact LeO.refl _)
      | (with_reducible exact LeO.none _)
      | (with_reducible refine LeO.ite ?_ ?_)
      | (with_reducible refine LeO.bind ?_ (fun _ => ?_))
      | exact ih0 _ _ _ _ _ _ _ _ _ _ _ _
      | exact plaitinglaw3_Make.mono _ _ _ _ _ _ _
      | exact LeO.none _
      | refine LeO.ite ?_ ?_
      | refine LeO.bind ?_ (fun _ => ?_)
set_option maxHeartbeats 8000000 in
set_option maxRecDepth 100000 in
theorem plaitinglaw13_StateAlone.calls (k : Nat) (a0_0 : Int) (a0_1 : Int) (a0_2 : Int) (a0_3 : Int) (a0_4 : Int) (A0_5 : Option Addr) (c0_5 : Nat) (l0_5 : List Int) (a1 : Int) (a2 : Int) (r : Bool) (w : World) (hr_ : r = true) (hr0_5 : Kd.C (Kd.int .i64) w A0_5 l0_5.length l0_5) (hc0_5 : l0_5.length ≤ c0_5) (h : plaitinglaw13_StateAlone.f k a0_0 a0_1 a0_2 a0_3 a0_4 l0_5 a1 a2 = some r) :
    Calls Try.prog 4 #[.agg #[.int .i64 a0_0, .int .i64 a0_1, .int .i64 a0_2, .int .i64 a0_3, .int .i64 a0_4, .slice A0_5 l0_5.length c0_5], .int .i64 a1, .int .i64 a2] w fun e w' => e = .returned (.bool r) ∧ Below w.heap.size w w' := by
  have HR_ := Aside0.mk hr_
  clear hr_
  have hu24 := Try.underlying24
  have HR0_5 := Aside0.mk hr0_5
  have HC0_5 := Aside0.mk hc0_5
  clear hr0_5 hc0_5
  have HB := Aside0.mk (Below.refl w.heap.size w)
  have H : ((plaitinglaw13_known.f).bind fun t129 => (if t129 = true then ((plaitinglaw3_Make.f k a0_0 a0_1 a0_2 a0_3 a0_4 l0_5).bind fun bt130 => ((plaitinglaw13_within.f a1 bt130.1).bind fun t139 => (plaitinglaw13_StateAlone.l0 k a2 t139 (wrap64 ((wrap64 ((wrap64 (bt130.1 + t139)) + 1)) + 3)) 1 0 0 bt130.1 bt130.2.1 bt130.2.2.1 bt130.2.2.2.1 bt130.2.2.2.2.1 bt130.2.2.2.2.2))) else (some false))) = some r := h
  clear h
  replace H := Option.bind_eq_some_iff.mp H
  obtain ⟨t129, A40, H⟩ := H
  replace H : (if t129 = true then ((plaitinglaw3_Make.f k a0_0 a0_1 a0_2 a0_3 a0_4 l0_5).bind fun bt130 => ((plaitinglaw13_within.f a1 bt130.1).bind fun t139 => (plaitinglaw13_StateAlone.l0 k a2 t139 (wrap64 ((wrap64 ((wrap64 (bt130.1 + t139)) + 1)) + 3)) 1 0 0 bt130.1 bt130.2.1 bt130.2.2.1 bt130.2.2.2.1 bt130.2.2.2.2.1 bt130.2.2.2.2.2))) else (some false)) = some r := H
  have A4 := Aside0.mk A40
  clear A40
  by_cases c5 : t129 = true
  · subst c5
    have H1 : ((plaitinglaw3_Make.f k a0_0 a0_1 a0_2 a0_3 a0_4 l0_5).bind fun bt130 => ((plaitinglaw13_within.f a1 bt130.1).bind fun t139 => (plaitinglaw13_StateAlone.l0 k a2 t139 (wrap64 ((wrap64 ((wrap64 (bt130.1 + t139)) + 1)) + 3)) 1 0 0 bt130.1 bt130.2.1 bt130.2.2.1 bt130.2.2.2.1 bt130.2.2.2.2.1 bt130.2.2.2.2.2))) = some r := by rw [if_pos rfl] at H; exact H
    clear H
    have H := H1
    clear H1
    replace H := Option.bind_eq_some_iff.mp H
    obtain ⟨⟨t130, t131, t132, t133, t134, t135⟩, A60, H⟩ := H
    replace H : ((plaitinglaw13_within.f a1 t130).bind fun t139 => (plaitinglaw13_StateAlone.l0 k a2 t139 (wrap64 ((wrap64 ((wrap64 (t130 + t139)) + 1)) + 3)) 1 0 0 t130 t131 t132 t133 t134 t135)) = some r := H
    have A6 := Aside0.mk A60
    clear A60
    replace H := Option.bind_eq_some_iff.mp H
    obtain ⟨t139, A70, H⟩ := H
    replace H : (plaitinglaw13_StateAlone.l0 k a2 t139 (wrap64 ((wrap64 ((wrap64 (t130 + t139)) + 1)) + 3)) 1 0 0 t130 t131 t132 t133 t134 t135) = some r := H
    have A7 := Aside0.mk A70
    clear A70
    have H' := Aside0.mk H
    clear H
    go_enter Try.func4, Try.ntmps4
    go_wp2_with (first | ((with_reducible refine gate_dst (N := 3) rfl ?_); refine box_event ?hg (N := 3) ?hd (cs := #[.int .i64 a0_0, .int .i64 a0_1, .int .i64 a0_2, .int .i64 a0_3, .int .i64 a0_4, .slice A0_5 l0_5.length c0_5]) (t := 24) ?hr ?_; (case hd => rfl); (case hg => rfl); (case hr => first | (go_simp; done) | (go_simp; rfl)); intro gb128 hg w8 hbox hb; have n0_ := Aside0.mk (below_step (by repeat (first | (with_reducible first | exact HB.out | apply below_alloc | apply pw_below_drewN | apply below_drew1) | exact HB.out)) hb); have n1_ := Aside0.mk (hbox); have n2_ := Aside0.mk ((by rw [hg]; exact (below_size (by repeat (first | (with_reducible first | exact HB.out | apply below_alloc | apply pw_below_drewN | apply below_drew1) | exact HB.out))) : w.heap.size ≤ gb128)); have n3_ := Aside0.mk ((by rw [hg]; exact (below_size (by repeat (first | (with_reducible first | exact HB.out | apply below_alloc | apply pw_below_drewN | apply below_drew1) | exact HB.out))) : w.heap.size ≤ gb128)); clear HB; have HB := n0_; have BK128 := n1_; have GW128 := n2_; have GE128 := n3_; clear n0_ n1_ n2_ n3_; clear hb hbox hg) | ((with_reducible refine gate_callee (f := 9) rfl ?_); refine goesL_ (some 15) rfl rfl Try.func9 (by kernel_rfl) rfl #[] rfl (by (try simp only [List.map_toArray, List.map_cons, List.map_nil]); first | done | rfl | (simp only [List.length_drop, List.length_take]; rfl)) ?_; (with_reducible refine (plaitinglaw13_known.calls  true _ A4.out).mono ?_); rintro e w9 ⟨rfl, hb⟩; refine ⟨_, rfl, ?_⟩; have n0_ := Aside0.mk (blk_below (g := gb128) (o := .cells #[.int .i64 a0_0, .int .i64 a0_1, .int .i64 a0_2, .int .i64 a0_3, .int .i64 a0_4, .slice A0_5 l0_5.length c0_5] 24 (0, 0)) (by (with_reducible repeat (first | refine blk_drewN ?_ _ | refine blk_drew ?_ | refine blk_alloc ?_ _)); exact BK128.out) hb); have n1_ := Aside0.mk (below_step (by repeat (first | (with_reducible first | exact HB.out | apply below_alloc | apply pw_below_drewN | apply below_drew1 | refine below_set ?_ GE128.out) | exact HB.out)) hb); clear BK128; clear HB; have BK128 := n0_; have HB := n1_; clear n0_ n1_; (try clear hb); (try clear hb2); (try clear hk); (try clear hi); have hcz10_0 : w9.cell? ⟨gb128, 0, none⟩ = some (.int .i64 a0_0) := (blk_cell BK128.out 0).trans rfl; have hcz10_1 : w9.cell? ⟨gb128, 1, none⟩ = some (.int .i64 a0_1) := (blk_cell BK128.out 1).trans rfl; have hcz10_2 : w9.cell? ⟨gb128, 2, none⟩ = some (.int .i64 a0_2) := (blk_cell BK128.out 2).trans rfl; have hcz10_3 : w9.cell? ⟨gb128, 3, none⟩ = some (.int .i64 a0_3) := (blk_cell BK128.out 3).trans rfl; have hcz10_4 : w9.cell? ⟨gb128, 4, none⟩ = some (.int .i64 a0_4) := (blk_cell BK128.out 4).trans rfl; have hcz10_5 : w9.cell? ⟨gb128, 5, none⟩ = some (.slice A0_5 l0_5.length c0_5) := (blk_cell BK128.out 5).trans rfl; have hfz10_0 := blk_frozen BK128.out 0; have hfz10_1 := blk_frozen BK128.out 1; have hfz10_2 := blk_frozen BK128.out 2; have hfz10_3 := blk_frozen BK128.out 3; have hfz10_4 := blk_frozen BK128.out 4; have hfz10_5 := blk_frozen BK128.out 5) | ((with_reducible refine gate_callee (f := 10) rfl ?_); refine goesL_ (some 18) rfl rfl Try.func10 (by kernel_rfl) rfl #[.agg #[.int .i64 a0_0, .int .i64 a0_1, .int .i64 a0_2, .int .i64 a0_3, .int .i64 a0_4, .slice A0_5 l0_5.length c0_5]] rfl (by (try simp only [List.map_toArray, List.map_cons, List.map_nil]); first | done | rfl | (simp only [List.length_drop, List.length_take]; rfl)) ?_; (with_reducible refine (plaitinglaw3_Make.calls k a0_0 a0_1 a0_2 a0_3 a0_4 _ _ l0_5 t130 t131 t132 t133 t134 t135 _ ?side1 ?side2 A6.out).mono ?_); (case side1 => repeat (first | exact (Kd.C_below HR0_5.out HB.out) | (with_reducible refine Kd.C_alloc ?_ _) | (with_reducible refine Kd.C_drewN ?_ _) | (with_reducible refine Kd.C_drew ?_))); (case side2 => exact HC0_5.out); rintro e w11 ⟨v136, rfl, ho0, hb⟩; refine ⟨_, rfl, ?_⟩; have n0_ := Aside0.mk (Kd.R_lower ho0 (below_size (by repeat (first | (with_reducible first | exact HB.out | apply below_alloc | apply pw_below_drewN | apply below_drew1 | refine below_set ?_ GE128.out) | exact HB.out)))); have n1_ := Aside0.mk (blk_below (g := gb128) (o := .cells #[.int .i64 a0_0, .int .i64 a0_1, .int .i64 a0_2, .int .i64 a0_3, .int .i64 a0_4, .slice A0_5 l0_5.length c0_5] 24 (0, 0)) (by (with_reducible repeat (first | refine blk_drewN ?_ _ | refine blk_drew ?_ | refine blk_alloc ?_ _)); exact BK128.out) hb); have n2_ := Aside0.mk (below_step (by repeat (first | (with_reducible first | exact HB.out | apply below_alloc | apply pw_below_drewN | apply below_drew1 | refine below_set ?_ GE128.out) | exact HB.out)) hb); clear BK128; clear HB; have HO137 := n0_; have BK128 := n1_; have HB := n2_; clear n0_ n1_ n2_; (try clear hb); (try clear hb2); (try clear hk); (try clear hi); (try clear ho0)) | ((with_reducible refine gate_dst (N := 7) rfl ?_); refine box_event ?hg (N := 7) ?hd (cs := #[.int .i64 0, .int .i64 0, .int .i64 0, .int .i64 0, .int .i64 0, .slice none 0 0]) (t := 24) ?hr ?_; (case hd => rfl); (case hg => rfl); (case hr => first | (go_simp; done) | (go_simp; rfl)); intro gb138 hg w12 hbox hb; have n0_ := Aside0.mk (Kd.R_below (by (with_reducible repeat (first | apply Kd.R_alloc | apply Kd.R_drewN | apply Kd.R_drew)); exact HO137.out) hb); have n1_ := Aside0.mk (blk_below (g := gb128) (o := .cells #[.int .i64 a0_0, .int .i64 a0_1, .int .i64 a0_2, .int .i64 a0_3, .int .i64 a0_4, .slice A0_5 l0_5.length c0_5] 24 (0, 0)) (by (with_reducible repeat (first | refine blk_drewN ?_ _ | refine blk_drew ?_ | refine blk_alloc ?_ _)); exact BK128.out) hb); have n2_ := Aside0.mk (below_step (by repeat (first | (with_reducible first | exact HB.out | apply below_alloc | apply pw_below_drewN | apply below_drew1 | refine below_set ?_ GE128.out) | exact HB.out)) hb); have n3_ := Aside0.mk (hbox); have n4_ := Aside0.mk ((by rw [hg]; exact (below_size (by repeat (first | (with_reducible first | exact HB.out | apply below_alloc | apply pw_below_drewN | apply below_drew1 | refine below_set ?_ GE128.out) | exact HB.out))) : w.heap.size ≤ gb138)); have n5_ := Aside0.mk ((by rw [hg]; exact (below_size (by repeat (first | (with_reducible first | exact HB.out | apply below_alloc | apply pw_below_drewN | apply below_drew1 | refine below_set ?_ GE128.out) | exact HB.out))) : w.heap.size ≤ gb138)); have n6_ := Aside0.mk ((by rw [hg]; exact Nat.ne_of_lt (blk_lt (g := gb128) (o := .cells #[.int .i64 a0_0, .int .i64 a0_1, .int .i64 a0_2, .int .i64 a0_3, .int .i64 a0_4, .slice A0_5 l0_5.length c0_5] 24 (0, 0)) (by (with_reducible repeat (first | refine blk_drewN ?_ _ | refine blk_drew ?_ | refine blk_alloc ?_ _)); exact BK128.out)) : gb128 ≠ gb138)); have n7_ := Aside0.mk ((by rw [hg]; exact Nat.ne_of_gt (blk_lt (g := gb128) (o := .cells #[.int .i64 a0_0, .int .i64 a0_1, .int .i64 a0_2, .int .i64 a0_3, .int .i64 a0_4, .slice A0_5 l0_5.length c0_5] 24 (0, 0)) (by (with_reducible repeat (first | refine blk_drewN ?_ _ | refine blk_drew ?_ | refine blk_alloc ?_ _)); exact BK128.out)) : gb138 ≠ gb128)); clear HO137; clear BK128; clear HB; have HO137 := n0_; have BK128 := n1_; have HB := n2_; have BK138 := n3_; have GW138 := n4_; have GE138 := n5_; have NB128_138 := n6_; have NB138_128 := n7_; clear n0_ n1_ n2_ n3_ n4_ n5_ n6_ n7_; clear hb hbox hg; have hnb13 := NB138_128.out; have hnc13 := NB128_138.out; have hcz14_0 : w12.cell? ⟨gb138, 0, none⟩ = some (.int .i64 0) := (blk_cell BK138.out 0).trans rfl; have hcz14_1 : w12.cell? ⟨gb138, 1, none⟩ = some (.int .i64 0) := (blk_cell BK138.out 1).trans rfl; have hcz14_2 : w12.cell? ⟨gb138, 2, none⟩ = some (.int .i64 0) := (blk_cell BK138.out 2).trans rfl; have hcz14_3 : w12.cell? ⟨gb138, 3, none⟩ = some (.int .i64 0) := (blk_cell BK138.out 3).trans rfl; have hcz14_4 : w12.cell? ⟨gb138, 4, none⟩ = some (.int .i64 0) := (blk_cell BK138.out 4).trans rfl; have hcz14_5 : w12.cell? ⟨gb138, 5, none⟩ = some (.slice none 0 0) := (blk_cell BK138.out 5).trans rfl; have hfz14_0 := blk_frozen BK138.out 0; have hfz14_1 := blk_frozen BK138.out 1; have hfz14_2 := blk_frozen BK138.out 2; have hfz14_3 := blk_frozen BK138.out 3; have hfz14_4 := blk_frozen BK138.out 4; have hfz14_5 := blk_frozen BK138.out 5; obtain ⟨Ao15, co15, eo15⟩ := Kd.R_slice HO137.out; subst eo15) | ((with_reducible refine gate_callee (f := 11) rfl ?_); refine goesL_ (some 22) rfl rfl Try.func11 (by kernel_rfl) rfl #[.int .i64 a1, .int .i64 t130] rfl (by (try simp only [List.map_toArray, List.map_cons, List.map_nil]); first | done | rfl | (simp only [List.length_drop, List.length_take]; rfl)) ?_; (with_reducible refine (plaitinglaw13_within.calls a1 t130 t139 _ A7.out).mono ?_); rintro e w' ⟨rfl, ⟨nd, rfl⟩⟩; refine ⟨_, rfl, ?_⟩))
    go_loopg [10, 11, 12] k (fun kq v10 v11 v12 w' => ∃ (x10_1 : Int) (x11_1 : Int) (x12_1 : Int), v10 = .int .i64 x10_1 ∧ v11 = .int .i64 x11_1 ∧ v12 = .int .i64 x12_1 ∧ Aside0 (plaitinglaw13_StateAlone.l0 kq a2 t139 (wrap64 ((wrap64 ((wrap64 (t130 + t139)) + 1)) + 3)) x10_1 x11_1 x12_1 t130 t131 t132 t133 t134 t135 = some r) ∧ Aside0 (kq ≤ k) ∧ Aside0 (Kd.R (Kd.int .i64) 3 w' w.heap.size (fun _ => True) (.slice Ao15 t135.length co15) t135) ∧ Aside0 (w'.heap[gb128]? = some (.cells #[.int .i64 a0_0, .int .i64 a0_1, .int .i64 a0_2, .int .i64 a0_3, .int .i64 a0_4, (.slice A0_5 l0_5.length c0_5)] 24 (0, 0))) ∧ Aside0 (w'.heap[gb138]? = some (.cells #[.int .i64 t130, .int .i64 t131, .int .i64 t132, .int .i64 t133, .int .i64 t134, (.slice Ao15 t135.length co15)] 24 (0, 0))) ∧ Aside0 (Below w.heap.size w w'))
    case atStart => exact ⟨(1), (0), (0), (by first | rfl | (simp; done) | (simp [*]; done)), (by first | rfl | (simp; done) | (simp [*]; done)), (by first | rfl | (simp; done) | (simp [*]; done)), H', ⟨Nat.le_refl _⟩, ⟨by (with_reducible repeat (first | apply Kd.R_alloc | apply Kd.R_drewN | apply Kd.R_drew)); exact Kd.R_mono (Kd.R_far (p := ⟨gb138, 5, none⟩) (Kd.R_far (p := ⟨gb138, 4, none⟩) (Kd.R_far (p := ⟨gb138, 3, none⟩) (Kd.R_far (p := ⟨gb138, 2, none⟩) (Kd.R_far (p := ⟨gb138, 1, none⟩) (Kd.R_far (p := ⟨gb138, 0, none⟩) (Kd.R_types HO137.out BK138.out (by decide)) (fun _ hk => hk.2) (.int .i64 t130)) (fun _ hk => hk.2) (.int .i64 t131)) (fun _ hk => hk.2) (.int .i64 t132)) (fun _ hk => hk.2) (.int .i64 t133)) (fun _ hk => hk.2) (.int .i64 t134)) (fun _ hk => hk.2) (.slice Ao15 t135.length co15)) (fun _ hk => trivial)⟩, ⟨by (with_reducible repeat (first | refine blk_drewN ?_ _ | refine blk_drew ?_ | refine blk_alloc ?_ _)); refine blk_far ?_ NB128_138.out _; (with_reducible repeat (first | refine blk_drewN ?_ _ | refine blk_drew ?_ | refine blk_alloc ?_ _)); refine blk_far ?_ NB128_138.out _; (with_reducible repeat (first | refine blk_drewN ?_ _ | refine blk_drew ?_ | refine blk_alloc ?_ _)); refine blk_far ?_ NB128_138.out _; (with_reducible repeat (first | refine blk_drewN ?_ _ | refine blk_drew ?_ | refine blk_alloc ?_ _)); refine blk_far ?_ NB128_138.out _; (with_reducible repeat (first | refine blk_drewN ?_ _ | refine blk_drew ?_ | refine blk_alloc ?_ _)); refine blk_far ?_ NB128_138.out _; (with_reducible repeat (first | refine blk_drewN ?_ _ | refine blk_drew ?_ | refine blk_alloc ?_ _)); refine blk_far ?_ NB128_138.out _; (with_reducible repeat (first | refine blk_drewN ?_ _ | refine blk_drew ?_ | refine blk_alloc ?_ _)); exact BK128.out⟩, ⟨by (with_reducible repeat (first | refine blk_drewN ?_ _ | refine blk_drew ?_ | refine blk_alloc ?_ _)); refine blk_put (cs := #[.int .i64 t130, .int .i64 t131, .int .i64 t132, .int .i64 t133, .int .i64 t134, .slice none 0 0]) ?_ 5 _ rfl; (with_reducible repeat (first | refine blk_drewN ?_ _ | refine blk_drew ?_ | refine blk_alloc ?_ _)); refine blk_put (cs := #[.int .i64 t130, .int .i64 t131, .int .i64 t132, .int .i64 t133, .int .i64 0, .slice none 0 0]) ?_ 4 _ rfl; (with_reducible repeat (first | refine blk_drewN ?_ _ | refine blk_drew ?_ | refine blk_alloc ?_ _)); refine blk_put (cs := #[.int .i64 t130, .int .i64 t131, .int .i64 t132, .int .i64 0, .int .i64 0, .slice none 0 0]) ?_ 3 _ rfl; (with_reducible repeat (first | refine blk_drewN ?_ _ | refine blk_drew ?_ | refine blk_alloc ?_ _)); refine blk_put (cs := #[.int .i64 t130, .int .i64 t131, .int .i64 0, .int .i64 0, .int .i64 0, .slice none 0 0]) ?_ 2 _ rfl; (with_reducible repeat (first | refine blk_drewN ?_ _ | refine blk_drew ?_ | refine blk_alloc ?_ _)); refine blk_put (cs := #[.int .i64 t130, .int .i64 0, .int .i64 0, .int .i64 0, .int .i64 0, .slice none 0 0]) ?_ 1 _ rfl; (with_reducible repeat (first | refine blk_drewN ?_ _ | refine blk_drew ?_ | refine blk_alloc ?_ _)); refine blk_put (cs := #[.int .i64 0, .int .i64 0, .int .i64 0, .int .i64 0, .int .i64 0, .slice none 0 0]) ?_ 0 _ rfl; (with_reducible repeat (first | refine blk_drewN ?_ _ | refine blk_drew ?_ | refine blk_alloc ?_ _)); exact BK138.out⟩, ⟨by repeat (first | (with_reducible first | exact HB.out | apply below_alloc | apply pw_below_drewN | apply below_drew1 | refine below_set ?_ GE128.out | refine below_set ?_ GE138.out) | exact HB.out)⟩⟩
    case round =>
      clear H'
      try clear c1
      try clear p2
      try clear c4
      try clear c5
      try clear p6
      try clear c9
      try clear c10
      try clear c11
      try clear c13
      try clear hcz10_0
      try clear hcz10_1
      try clear hcz10_2
      try clear hcz10_3
      try clear hcz10_4
      try clear hcz10_5
      try clear hcz14_0
      try clear hcz14_1
      try clear hcz14_2
      try clear hcz14_3
      try clear hcz14_4
      try clear hcz14_5
      try clear hfz10_0
      try clear hfz10_1
      try clear hfz10_2
      try clear hfz10_3
      try clear hfz10_4
      try clear hfz10_5
      try clear hfz14_0
      try clear hfz14_1
      try clear hfz14_2
      try clear hfz14_3
      try clear hfz14_4
      try clear hfz14_5
      obtain ⟨x10_1, x11_1, x12_1, rfl, rfl, rfl, HA, HK1, HO_139005, BK128, BK138, HB⟩ := hrel
      cases gk with
      | zero => exact absurd HA.out (by simp [plaitinglaw13_StateAlone.l0])
      | succ k1 =>
        have H := HA.out
        clear HA
        simp only [plaitinglaw13_StateAlone.l0] at H
        replace H := Option.bind_eq_some_iff.mp H
        obtain ⟨t140, A160, H⟩ := H
        replace H : (if x12_1 < t140 then (if (wrap64 ((wrap64 ((wrap64 (t130 + t139)) + 1)) + 3)) = 0 then (none) else (if (Int.tmod x12_1 (wrap64 ((wrap64 ((wrap64 (t130 + t139)) + 1)) + 3))) = (wrap64 (t130 + t139)) then (if x10_1 = 2 then ((state_Next.f t130 t131 t132 t133 t134 t135 t139 x10_1 x11_1 0).bind fun bt141 => (plaitinglaw13_StateAlone.l0 k1 a2 t139 (wrap64 ((wrap64 ((wrap64 (t130 + t139)) + 1)) + 3)) bt141.1 bt141.2 (wrap64 (x12_1 + 1)) t130 t131 t132 t133 t134 t135)) else (some false)) else (if (Int.tmod x12_1 (wrap64 ((wrap64 ((wrap64 (t130 + t139)) + 1)) + 3))) > (wrap64 (t130 + t139)) then (if x10_1 = 3 then ((state_Next.f t130 t131 t132 t133 t134 t135 t139 x10_1 x11_1 0).bind fun bt143 => (plaitinglaw13_StateAlone.l0 k1 a2 t139 (wrap64 ((wrap64 ((wrap64 (t130 + t139)) + 1)) + 3)) bt143.1 bt143.2 (wrap64 (x12_1 + 1)) t130 t131 t132 t133 t134 t135)) else (some false)) else (if x10_1 = 1 then ((state_Next.f t130 t131 t132 t133 t134 t135 t139 x10_1 x11_1 0).bind fun bt145 => (plaitinglaw13_StateAlone.l0 k1 a2 t139 (wrap64 ((wrap64 ((wrap64 (t130 + t139)) + 1)) + 3)) bt145.1 bt145.2 (wrap64 (x12_1 + 1)) t130 t131 t132 t133 t134 t135)) else (some false))))) else (some true)) = some r := H
        have A16 := Aside0.mk A160
        clear A160
        by_cases c17 : x12_1 < t140
        · rw [if_pos c17] at H
          have c17b0 : decide (x12_1 < t140) = true := decide_eq_true c17
          clear c17
          by_cases c18 : (wrap64 ((wrap64 ((wrap64 (t130 + t139)) + 1)) + 3)) = 0
          · rw [if_pos c18] at H
            exact absurd H (by simp)
          · rw [if_neg c18] at H
            have c18b0 : ((wrap64 ((wrap64 ((wrap64 (t130 + t139)) + 1)) + 3)) == 0) = false := beq_eq_false_iff_ne.mpr c18
            have c18b1 : ((wrap64 ((wrap64 ((wrap64 (t130 + t139)) + 1)) + 3)) != 0) = true := bne_iff_ne.mpr c18
            by_cases c19 : (Int.tmod x12_1 (wrap64 ((wrap64 ((wrap64 (t130 + t139)) + 1)) + 3))) = (wrap64 (t130 + t139))
            · rw [if_pos c19] at H
              have c19b0 : ((Int.tmod x12_1 (wrap64 ((wrap64 ((wrap64 (t130 + t139)) + 1)) + 3))) == (wrap64 (t130 + t139))) = true := beq_iff_eq.mpr c19
              have c19b1 : ((Int.tmod x12_1 (wrap64 ((wrap64 ((wrap64 (t130 + t139)) + 1)) + 3))) != (wrap64 (t130 + t139))) = false := bne_eq_false_iff_eq.mpr c19
              clear c19
              by_cases c20 : x10_1 = 2
              · rw [if_pos c20] at H
                have c20b0 : (x10_1 == 2) = true := beq_iff_eq.mpr c20
                have c20b1 : (x10_1 != 2) = false := bne_eq_false_iff_eq.mpr c20
                clear c20
                replace H := Option.bind_eq_some_iff.mp H
                obtain ⟨⟨t141, t142⟩, A210, H⟩ := H
                replace H : (plaitinglaw13_StateAlone.l0 k1 a2 t139 (wrap64 ((wrap64 ((wrap64 (t130 + t139)) + 1)) + 3)) t141 t142 (wrap64 (x12_1 + 1)) t130 t131 t132 t133 t134 t135) = some r := H
                have A21 := Aside0.mk A210
                clear A210
                have H' := Aside0.mk H
                clear H
                go_wp2_with (first | ((with_reducible refine gate_callee (f := 11) rfl ?_); refine goesL_ (some 31) rfl rfl Try.func11 (by kernel_rfl) rfl #[.int .i64 a2, .int .i64 100] rfl (by (try simp only [List.map_toArray, List.map_cons, List.map_nil]); first | done | rfl | (simp only [List.length_drop, List.length_take]; rfl)) ?_; (with_reducible refine (plaitinglaw13_within.calls a2 100 t140 _ A16.out).mono ?_); rintro e w' ⟨rfl, ⟨nd, rfl⟩⟩; refine ⟨_, rfl, ?_⟩; have hnb22 := NB138_128.out; have hnc22 := NB128_138.out; have hcz23_0 : wr.cell? ⟨gb138, 0, none⟩ = some (.int .i64 t130) := (blk_cell BK138.out 0).trans rfl; have hcz23_1 : wr.cell? ⟨gb138, 1, none⟩ = some (.int .i64 t131) := (blk_cell BK138.out 1).trans rfl; have hcz23_2 : wr.cell? ⟨gb138, 2, none⟩ = some (.int .i64 t132) := (blk_cell BK138.out 2).trans rfl; have hcz23_3 : wr.cell? ⟨gb138, 3, none⟩ = some (.int .i64 t133) := (blk_cell BK138.out 3).trans rfl; have hcz23_4 : wr.cell? ⟨gb138, 4, none⟩ = some (.int .i64 t134) := (blk_cell BK138.out 4).trans rfl; have hcz23_5 : wr.cell? ⟨gb138, 5, none⟩ = some (.slice Ao15 t135.length co15) := (blk_cell BK138.out 5).trans rfl; have hfz23_0 := blk_frozen BK138.out 0; have hfz23_1 := blk_frozen BK138.out 1; have hfz23_2 := blk_frozen BK138.out 2; have hfz23_3 := blk_frozen BK138.out 3; have hfz23_4 := blk_frozen BK138.out 4; have hfz23_5 := blk_frozen BK138.out 5) | ((with_reducible refine gate_callee (f := 14) rfl ?_); refine goesL_ (some 60) rfl rfl Try.func14 (by kernel_rfl) rfl #[.agg #[.int .i64 t130, .int .i64 t131, .int .i64 t132, .int .i64 t133, .int .i64 t134, .slice Ao15 t135.length co15], .int .i64 t139, .int .i64 x10_1, .int .i64 x11_1, .int .i64 0] rfl (by (try simp only [List.map_toArray, List.map_cons, List.map_nil]); first | done | rfl | (simp only [List.length_drop, List.length_take]; rfl)) ?_; (with_reducible refine (state_Next.calls t130 t131 t132 t133 t134 _ _ t135 t139 x10_1 x11_1 0 t141 t142 _ ?side1 ?side2 A21.out).mono ?_); (case side1 => repeat (first | exact (Kd.R_reads' HO_139005.out).2.2 | (with_reducible refine Kd.C_alloc ?_ _) | (with_reducible refine Kd.C_drewN ?_ _) | (with_reducible refine Kd.C_drew ?_))); (case side2 => exact (Kd.R_reads' HO_139005.out).2.1); rintro e w24 ⟨rfl, hb⟩; refine ⟨_, rfl, ?_⟩; have n0_ := Aside0.mk (Kd.R_below (by (with_reducible repeat (first | apply Kd.R_alloc | apply Kd.R_drewN | apply Kd.R_drew)); exact HO_139005.out) hb); have n1_ := Aside0.mk (blk_below (g := gb128) (o := .cells #[.int .i64 a0_0, .int .i64 a0_1, .int .i64 a0_2, .int .i64 a0_3, .int .i64 a0_4, .slice A0_5 l0_5.length c0_5] 24 (0, 0)) (by (with_reducible repeat (first | refine blk_drewN ?_ _ | refine blk_drew ?_ | refine blk_alloc ?_ _)); exact BK128.out) hb); have n2_ := Aside0.mk (blk_below (g := gb138) (o := .cells #[.int .i64 t130, .int .i64 t131, .int .i64 t132, .int .i64 t133, .int .i64 t134, .slice Ao15 t135.length co15] 24 (0, 0)) (by (with_reducible repeat (first | refine blk_drewN ?_ _ | refine blk_drew ?_ | refine blk_alloc ?_ _)); exact BK138.out) hb); have n3_ := Aside0.mk (below_step (by repeat (first | (with_reducible first | exact HB.out | apply below_alloc | apply pw_below_drewN | apply below_drew1 | refine below_set ?_ GE128.out | refine below_set ?_ GE138.out) | exact HB.out)) hb); clear HO_139005; clear BK128; clear BK138; clear HB; have HO_139005 := n0_; have BK128 := n1_; have BK138 := n2_; have HB := n3_; clear n0_ n1_ n2_ n3_; (try clear hb); (try clear hb2); (try clear hk); (try clear hi)))
                go_roundg k1
                case measure => have := HK1.out; omega
                case rel => exact ⟨(t141), (t142), (wrap64 (x12_1 + 1)), (by first | rfl | (simp; done) | (simp [*]; done)), (by first | rfl | (simp; done) | (simp [*]; done)), (by first | rfl | (simp; done) | (simp [*]; done)), H', ⟨by have := HK1.out; omega⟩, ⟨by (with_reducible repeat (first | apply Kd.R_alloc | apply Kd.R_drewN | apply Kd.R_drew)); exact HO_139005.out⟩, ⟨by (with_reducible repeat (first | refine blk_drewN ?_ _ | refine blk_drew ?_ | refine blk_alloc ?_ _)); exact BK128.out⟩, ⟨by (with_reducible repeat (first | refine blk_drewN ?_ _ | refine blk_drew ?_ | refine blk_alloc ?_ _)); exact BK138.out⟩, ⟨by repeat (first | (with_reducible first | exact HB.out | apply below_alloc | apply pw_below_drewN | apply below_drew1 | refine below_set ?_ GE128.out | refine below_set ?_ GE138.out) | exact HB.out)⟩⟩
              · rw [if_neg c20] at H
                have c20b0 : (x10_1 == 2) = false := beq_eq_false_iff_ne.mpr c20
                have c20b1 : (x10_1 != 2) = true := bne_iff_ne.mpr c20
                exact Bool.noConfusion ((Option.some.inj H).trans HR_.out)
            · rw [if_neg c19] at H
              have c19b0 : ((Int.tmod x12_1 (wrap64 ((wrap64 ((wrap64 (t130 + t139)) + 1)) + 3))) == (wrap64 (t130 + t139))) = false := beq_eq_false_iff_ne.mpr c19
              have c19b1 : ((Int.tmod x12_1 (wrap64 ((wrap64 ((wrap64 (t130 + t139)) + 1)) + 3))) != (wrap64 (t130 + t139))) = true := bne_iff_ne.mpr c19
              by_cases c27 : (Int.tmod x12_1 (wrap64 ((wrap64 ((wrap64 (t130 + t139)) + 1)) + 3))) > (wrap64 (t130 + t139))
              · rw [if_pos c27] at H
                have c27b0 : decide ((wrap64 (t130 + t139)) < (Int.tmod x12_1 (wrap64 ((wrap64 ((wrap64 (t130 + t139)) + 1)) + 3)))) = true := decide_eq_true c27
                clear c27
                by_cases c28 : x10_1 = 3
                · rw [if_pos c28] at H
                  have c28b0 : (x10_1 == 3) = true := beq_iff_eq.mpr c28
                  have c28b1 : (x10_1 != 3) = false := bne_eq_false_iff_eq.mpr c28
                  clear c28
                  replace H := Option.bind_eq_some_iff.mp H
                  obtain ⟨⟨t143, t144⟩, A290, H⟩ := H
                  replace H : (plaitinglaw13_StateAlone.l0 k1 a2 t139 (wrap64 ((wrap64 ((wrap64 (t130 + t139)) + 1)) + 3)) t143 t144 (wrap64 (x12_1 + 1)) t130 t131 t132 t133 t134 t135) = some r := H
                  have A29 := Aside0.mk A290
                  clear A290
                  have H' := Aside0.mk H
                  clear H
                  go_wp2_with (first | ((with_reducible refine gate_callee (f := 11) rfl ?_); refine goesL_ (some 31) rfl rfl Try.func11 (by kernel_rfl) rfl #[.int .i64 a2, .int .i64 100] rfl (by (try simp only [List.map_toArray, List.map_cons, List.map_nil]); first | done | rfl | (simp only [List.length_drop, List.length_take]; rfl)) ?_; (with_reducible refine (plaitinglaw13_within.calls a2 100 t140 _ A16.out).mono ?_); rintro e w' ⟨rfl, ⟨nd, rfl⟩⟩; refine ⟨_, rfl, ?_⟩; have hnb30 := NB138_128.out; have hnc30 := NB128_138.out; have hcz31_0 : wr.cell? ⟨gb138, 0, none⟩ = some (.int .i64 t130) := (blk_cell BK138.out 0).trans rfl; have hcz31_1 : wr.cell? ⟨gb138, 1, none⟩ = some (.int .i64 t131) := (blk_cell BK138.out 1).trans rfl; have hcz31_2 : wr.cell? ⟨gb138, 2, none⟩ = some (.int .i64 t132) := (blk_cell BK138.out 2).trans rfl; have hcz31_3 : wr.cell? ⟨gb138, 3, none⟩ = some (.int .i64 t133) := (blk_cell BK138.out 3).trans rfl; have hcz31_4 : wr.cell? ⟨gb138, 4, none⟩ = some (.int .i64 t134) := (blk_cell BK138.out 4).trans rfl; have hcz31_5 : wr.cell? ⟨gb138, 5, none⟩ = some (.slice Ao15 t135.length co15) := (blk_cell BK138.out 5).trans rfl; have hfz31_0 := blk_frozen BK138.out 0; have hfz31_1 := blk_frozen BK138.out 1; have hfz31_2 := blk_frozen BK138.out 2; have hfz31_3 := blk_frozen BK138.out 3; have hfz31_4 := blk_frozen BK138.out 4; have hfz31_5 := blk_frozen BK138.out 5) | ((with_reducible refine gate_callee (f := 14) rfl ?_); refine goesL_ (some 60) rfl rfl Try.func14 (by kernel_rfl) rfl #[.agg #[.int .i64 t130, .int .i64 t131, .int .i64 t132, .int .i64 t133, .int .i64 t134, .slice Ao15 t135.length co15], .int .i64 t139, .int .i64 x10_1, .int .i64 x11_1, .int .i64 0] rfl (by (try simp only [List.map_toArray, List.map_cons, List.map_nil]); first | done | rfl | (simp only [List.length_drop, List.length_take]; rfl)) ?_; (with_reducible refine (state_Next.calls t130 t131 t132 t133 t134 _ _ t135 t139 x10_1 x11_1 0 t143 t144 _ ?side1 ?side2 A29.out).mono ?_); (case side1 => repeat (first | exact (Kd.R_reads' HO_139005.out).2.2 | (with_reducible refine Kd.C_alloc ?_ _) | (with_reducible refine Kd.C_drewN ?_ _) | (with_reducible refine Kd.C_drew ?_))); (case side2 => exact (Kd.R_reads' HO_139005.out).2.1); rintro e w32 ⟨rfl, hb⟩; refine ⟨_, rfl, ?_⟩; have n0_ := Aside0.mk (Kd.R_below (by (with_reducible repeat (first | apply Kd.R_alloc | apply Kd.R_drewN | apply Kd.R_drew)); exact HO_139005.out) hb); have n1_ := Aside0.mk (blk_below (g := gb128) (o := .cells #[.int .i64 a0_0, .int .i64 a0_1, .int .i64 a0_2, .int .i64 a0_3, .int .i64 a0_4, .slice A0_5 l0_5.length c0_5] 24 (0, 0)) (by (with_reducible repeat (first | refine blk_drewN ?_ _ | refine blk_drew ?_ | refine blk_alloc ?_ _)); exact BK128.out) hb); have n2_ := Aside0.mk (blk_below (g := gb138) (o := .cells #[.int .i64 t130, .int .i64 t131, .int .i64 t132, .int .i64 t133, .int .i64 t134, .slice Ao15 t135.length co15] 24 (0, 0)) (by (with_reducible repeat (first | refine blk_drewN ?_ _ | refine blk_drew ?_ | refine blk_alloc ?_ _)); exact BK138.out) hb); have n3_ := Aside0.mk (below_step (by repeat (first | (with_reducible first | exact HB.out | apply below_alloc | apply pw_below_drewN | apply below_drew1 | refine below_set ?_ GE128.out | refine below_set ?_ GE138.out) | exact HB.out)) hb); clear HO_139005; clear BK128; clear BK138; clear HB; have HO_139005 := n0_; have BK128 := n1_; have BK138 := n2_; have HB := n3_; clear n0_ n1_ n2_ n3_; (try clear hb); (try clear hb2); (try clear hk); (try clear hi)))
                  go_roundg k1
                  case measure => have := HK1.out; omega
                  case rel => exact ⟨(t143), (t144), (wrap64 (x12_1 + 1)), (by first | rfl | (simp; done) | (simp [*]; done)), (by first | rfl | (simp; done) | (simp [*]; done)), (by first | rfl | (simp; done) | (simp [*]; done)), H', ⟨by have := HK1.out; omega⟩, ⟨by (with_reducible repeat (first | apply Kd.R_alloc | apply Kd.R_drewN | apply Kd.R_drew)); exact HO_139005.out⟩, ⟨by (with_reducible repeat (first | refine blk_drewN ?_ _ | refine blk_drew ?_ | refine blk_alloc ?_ _)); exact BK128.out⟩, ⟨by (with_reducible repeat (first | refine blk_drewN ?_ _ | refine blk_drew ?_ | refine blk_alloc ?_ _)); exact BK138.out⟩, ⟨by repeat (first | (with_reducible first | exact HB.out | apply below_alloc | apply pw_below_drewN | apply below_drew1 | refine below_set ?_ GE128.out | refine below_set ?_ GE138.out) | exact HB.out)⟩⟩
                · rw [if_neg c28] at H
                  have c28b0 : (x10_1 == 3) = false := beq_eq_false_iff_ne.mpr c28
                  have c28b1 : (x10_1 != 3) = true := bne_iff_ne.mpr c28
                  exact Bool.noConfusion ((Option.some.inj H).trans HR_.out)
              · rw [if_neg c27] at H
                have c27b0 : decide ((wrap64 (t130 + t139)) < (Int.tmod x12_1 (wrap64 ((wrap64 ((wrap64 (t130 + t139)) + 1)) + 3)))) = false := decide_eq_false c27
                clear c27
                by_cases c35 : x10_1 = 1
                · rw [if_pos c35] at H
                  have c35b0 : (x10_1 == 1) = true := beq_iff_eq.mpr c35
                  have c35b1 : (x10_1 != 1) = false := bne_eq_false_iff_eq.mpr c35
                  clear c35
                  replace H := Option.bind_eq_some_iff.mp H
                  obtain ⟨⟨t145, t146⟩, A360, H⟩ := H
                  replace H : (plaitinglaw13_StateAlone.l0 k1 a2 t139 (wrap64 ((wrap64 ((wrap64 (t130 + t139)) + 1)) + 3)) t145 t146 (wrap64 (x12_1 + 1)) t130 t131 t132 t133 t134 t135) = some r := H
                  have A36 := Aside0.mk A360
                  clear A360
                  have H' := Aside0.mk H
                  clear H
                  go_wp2_with (first | ((with_reducible refine gate_callee (f := 11) rfl ?_); refine goesL_ (some 31) rfl rfl Try.func11 (by kernel_rfl) rfl #[.int .i64 a2, .int .i64 100] rfl (by (try simp only [List.map_toArray, List.map_cons, List.map_nil]); first | done | rfl | (simp only [List.length_drop, List.length_take]; rfl)) ?_; (with_reducible refine (plaitinglaw13_within.calls a2 100 t140 _ A16.out).mono ?_); rintro e w' ⟨rfl, ⟨nd, rfl⟩⟩; refine ⟨_, rfl, ?_⟩; have hnb37 := NB138_128.out; have hnc37 := NB128_138.out; have hcz38_0 : wr.cell? ⟨gb138, 0, none⟩ = some (.int .i64 t130) := (blk_cell BK138.out 0).trans rfl; have hcz38_1 : wr.cell? ⟨gb138, 1, none⟩ = some (.int .i64 t131) := (blk_cell BK138.out 1).trans rfl; have hcz38_2 : wr.cell? ⟨gb138, 2, none⟩ = some (.int .i64 t132) := (blk_cell BK138.out 2).trans rfl; have hcz38_3 : wr.cell? ⟨gb138, 3, none⟩ = some (.int .i64 t133) := (blk_cell BK138.out 3).trans rfl; have hcz38_4 : wr.cell? ⟨gb138, 4, none⟩ = some (.int .i64 t134) := (blk_cell BK138.out 4).trans rfl; have hcz38_5 : wr.cell? ⟨gb138, 5, none⟩ = some (.slice Ao15 t135.length co15) := (blk_cell BK138.out 5).trans rfl; have hfz38_0 := blk_frozen BK138.out 0; have hfz38_1 := blk_frozen BK138.out 1; have hfz38_2 := blk_frozen BK138.out 2; have hfz38_3 := blk_frozen BK138.out 3; have hfz38_4 := blk_frozen BK138.out 4; have hfz38_5 := blk_frozen BK138.out 5) | ((with_reducible refine gate_callee (f := 14) rfl ?_); refine goesL_ (some 60) rfl rfl Try.func14 (by kernel_rfl) rfl #[.agg #[.int .i64 t130, .int .i64 t131, .int .i64 t132, .int .i64 t133, .int .i64 t134, .slice Ao15 t135.length co15], .int .i64 t139, .int .i64 x10_1, .int .i64 x11_1, .int .i64 0] rfl (by (try simp only [List.map_toArray, List.map_cons, List.map_nil]); first | done | rfl | (simp only [List.length_drop, List.length_take]; rfl)) ?_; (with_reducible refine (state_Next.calls t130 t131 t132 t133 t134 _ _ t135 t139 x10_1 x11_1 0 t145 t146 _ ?side1 ?side2 A36.out).mono ?_); (case side1 => repeat (first | exact (Kd.R_reads' HO_139005.out).2.2 | (with_reducible refine Kd.C_alloc ?_ _) | (with_reducible refine Kd.C_drewN ?_ _) | (with_reducible refine Kd.C_drew ?_))); (case side2 => exact (Kd.R_reads' HO_139005.out).2.1); rintro e w39 ⟨rfl, hb⟩; refine ⟨_, rfl, ?_⟩; have n0_ := Aside0.mk (Kd.R_below (by (with_reducible repeat (first | apply Kd.R_alloc | apply Kd.R_drewN | apply Kd.R_drew)); exact HO_139005.out) hb); have n1_ := Aside0.mk (blk_below (g := gb128) (o := .cells #[.int .i64 a0_0, .int .i64 a0_1, .int .i64 a0_2, .int .i64 a0_3, .int .i64 a0_4, .slice A0_5 l0_5.length c0_5] 24 (0, 0)) (by (with_reducible repeat (first | refine blk_drewN ?_ _ | refine blk_drew ?_ | refine blk_alloc ?_ _)); exact BK128.out) hb); have n2_ := Aside0.mk (blk_below (g := gb138) (o := .cells #[.int .i64 t130, .int .i64 t131, .int .i64 t132, .int .i64 t133, .int .i64 t134, .slice Ao15 t135.length co15] 24 (0, 0)) (by (with_reducible repeat (first | refine blk_drewN ?_ _ | refine blk_drew ?_ | refine blk_alloc ?_ _)); exact BK138.out) hb); have n3_ := Aside0.mk (below_step (by repeat (first | (with_reducible first | exact HB.out | apply below_alloc | apply pw_below_drewN | apply below_drew1 | refine below_set ?_ GE128.out | refine below_set ?_ GE138.out) | exact HB.out)) hb); clear HO_139005; clear BK128; clear BK138; clear HB; have HO_139005 := n0_; have BK128 := n1_; have BK138 := n2_; have HB := n3_; clear n0_ n1_ n2_ n3_; (try clear hb); (try clear hb2); (try clear hk); (try clear hi)))
                  go_roundg k1
                  case measure => have := HK1.out; omega
                  case rel => exact ⟨(t145), (t146), (wrap64 (x12_1 + 1)), (by first | rfl | (simp; done) | (simp [*]; done)), (by first | rfl | (simp; done) | (simp [*]; done)), (by first | rfl | (simp; done) | (simp [*]; done)), H', ⟨by have := HK1.out; omega⟩, ⟨by (with_reducible repeat (first | apply Kd.R_alloc | apply Kd.R_drewN | apply Kd.R_drew)); exact HO_139005.out⟩, ⟨by (with_reducible repeat (first | refine blk_drewN ?_ _ | refine blk_drew ?_ | refine blk_alloc ?_ _)); exact BK128.out⟩, ⟨by (with_reducible repeat (first | refine blk_drewN ?_ _ | refine blk_drew ?_ | refine blk_alloc ?_ _)); exact BK138.out⟩, ⟨by repeat (first | (with_reducible first | exact HB.out | apply below_alloc | apply pw_below_drewN | apply below_drew1 | refine below_set ?_ GE128.out | refine below_set ?_ GE138.out) | exact HB.out)⟩⟩
                · rw [if_neg c35] at H
                  have c35b0 : (x10_1 == 1) = false := beq_eq_false_iff_ne.mpr c35
                  have c35b1 : (x10_1 != 1) = true := bne_iff_ne.mpr c35
                  exact Bool.noConfusion ((Option.some.inj H).trans HR_.out)
        · rw [if_neg c17] at H
          have c17b0 : decide (x12_1 < t140) = false := decide_eq_false c17
          clear c17
          obtain rfl := Option.some.inj H
          go_wp2_with (first | ((with_reducible refine gate_callee (f := 11) rfl ?_); refine goesL_ (some 31) rfl rfl Try.func11 (by kernel_rfl) rfl #[.int .i64 a2, .int .i64 100] rfl (by (try simp only [List.map_toArray, List.map_cons, List.map_nil]); first | done | rfl | (simp only [List.length_drop, List.length_take]; rfl)) ?_; (with_reducible refine (plaitinglaw13_within.calls a2 100 t140 _ A16.out).mono ?_); rintro e w' ⟨rfl, ⟨nd, rfl⟩⟩; refine ⟨_, rfl, ?_⟩))
          go_ret
          exact ⟨by first | rfl | (simp [errW_none, errW_some] <;> rfl) | (simp [*, errW_none, errW_some] <;> rfl), by repeat (first | (with_reducible first | exact HB.out | apply below_alloc | apply pw_below_drewN | apply below_drew1 | refine below_set ?_ GE128.out | refine below_set ?_ GE138.out) | exact HB.out)⟩
  · replace c5 := Bool.eq_false_iff.mpr c5
    subst c5
    have H1 : (some false) = some r := by rw [if_neg (show ¬ (false = true) by decide)] at H; exact H
    clear H
    have H := H1
    clear H1
    exact Bool.noConfusion ((Option.some.inj H).trans HR_.out)
end Go.Proofs.Ytcfihnimogidhaa.PStateAlone
