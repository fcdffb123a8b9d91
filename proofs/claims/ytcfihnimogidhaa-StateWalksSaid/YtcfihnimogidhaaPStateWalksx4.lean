/- Functions that the claim reaches, each as a plain Lean function with a proof that the Go call comes to what it answers, written by the printer of the kit for this claim over stand-in bodies whose own contracts are proved by hand. Conditions: the readings stated in each theorem. -/
import Derived.Test.YtcfihnimogidhaaPStateWalksx0
import Derived.Test.YtcfihnimogidhaaPStateWalksx1
import Derived.Test.YtcfihnimogidhaaPStateWalksx2
import Derived.Test.YtcfihnimogidhaaPStateWalksx3
namespace Go.Proofs.Ytcfihnimogidhaa.PStateWalks
open Go.RowKit Go.Proofs.YtcfihnimogidhaaW.PrintWords Go.Proofs.YtcfihnimogidhaaW.PrintLast Go.Proofs.YtcfihnimogidhaaW.PrintMore
attribute [local go_sem] max2_int min2_int max_two min_two max_three min_three max_four min_four   -- for this text's walks alone
set_option linter.unusedVariables false
set_option linter.unusedSimpArgs false

/-! ### plaitinglaw13_StateWalks: function 8 -/
mutual
def plaitinglaw13_StateWalks.l0 : Nat → List Int → Int → Int → Int → Int → Int → Int → Int → Int → Int → Int → List Int → Option (Bool)
  | 0, _, _, _, _, _, _, _, _, _, _, _, _ => none
  | k + 1, x2, x8, x9, x10, x11, x13, x139000, x139001, x139002, x139003, x139004, x139005 => if x13 < (x2.length : Int) then (plaitinglaw13_StateWalks.j1 k x2 x8 x9 x10 x11 x13 (decide (x13 < 100)) x139000 x139001 x139002 x139003 x139004 x139005) else (plaitinglaw13_StateWalks.j1 k x2 x8 x9 x10 x11 x13 false x139000 x139001 x139002 x139003 x139004 x139005)
def plaitinglaw13_StateWalks.j1 : Nat → List Int → Int → Int → Int → Int → Int → Bool → Int → Int → Int → Int → Int → List Int → Option (Bool)
  | 0, _, _, _, _, _, _, _, _, _, _, _, _, _ => none
  | k + 1, x2, x8, x9, x10, x11, x13, x31, x139000, x139001, x139002, x139003, x139004, x139005 => if x31 = true then (if 0 ≤ x13 then (if x13 < (x2.length : Int) then ((plaitinglaw13_within.f (rd x2 x13) x139000).bind fun t141 => ((plaitinglaw13_within.f (wrap64 (Int.tdiv (rd x2 x13) 64)) 3).bind fun t143 => (if t143 > 0 then (plaitinglaw13_StateWalks.j2 k x2 x8 x9 x10 x11 x13 0 x139000 x139001 x139002 x139003 x139004 x139005) else (plaitinglaw13_StateWalks.j2 k x2 x8 x9 x10 x11 x13 t141 x139000 x139001 x139002 x139003 x139004 x139005)))) else (none)) else (none)) else (some true)
def plaitinglaw13_StateWalks.j2 : Nat → List Int → Int → Int → Int → Int → Int → Int → Int → Int → Int → Int → Int → List Int → Option (Bool)
  | 0, _, _, _, _, _, _, _, _, _, _, _, _, _ => none
  | k + 1, x2, x8, x9, x10, x11, x13, x14, x139000, x139001, x139002, x139003, x139004, x139005 => (state_Next.f x139000 x139001 x139002 x139003 x139004 x139005 x8 x9 x10 x14).bind fun bt144 => (if x9 = 1 then (plaitinglaw13_StateWalks.j3 k x2 x8 bt144.1 bt144.2 x11 (decide ((wrap64 (2 * (wrap64 (x14 + 1)))) > x139000)) x13 x9 (x14 == 0) x139000 x139001 x139002 x139003 x139004 x139005) else (plaitinglaw13_StateWalks.j3 k x2 x8 bt144.1 bt144.2 x11 (decide ((wrap64 (2 * (wrap64 (x14 + 1)))) > x139000)) x13 x9 false x139000 x139001 x139002 x139003 x139004 x139005))
def plaitinglaw13_StateWalks.j3 : Nat → List Int → Int → Int → Int → Int → Bool → Int → Int → Bool → Int → Int → Int → Int → Int → List Int → Option (Bool)
  | 0, _, _, _, _, _, _, _, _, _, _, _, _, _, _, _ => none
  | k + 1, x2, x8, x9, x10, x11, x12, x13, x15, x69, x139000, x139001, x139002, x139003, x139004, x139005 => if x69 = true then (if x9 < 1 then (some false) else (if x9 > 4 then (some false) else (if x9 = 4 then (if x12 = true then (if x9 = 2 then (if x15 = 1 then (if (wrap64 (x11 + 1)) = (wrap64 (x139000 + x8)) then (if x10 < 0 then (some false) else (if x10 ≥ (wrap64 (x139000 + x8)) then (if x9 = 1 then (some false) else (plaitinglaw13_StateWalks.l0 k x2 x8 x9 x10 (wrap64 (x11 + 1)) (wrap64 (x13 + 1)) x139000 x139001 x139002 x139003 x139004 x139005)) else (plaitinglaw13_StateWalks.l0 k x2 x8 x9 x10 (wrap64 (x11 + 1)) (wrap64 (x13 + 1)) x139000 x139001 x139002 x139003 x139004 x139005))) else (some false)) else (some false)) else (if x10 < 0 then (some false) else (if x10 ≥ (wrap64 (x139000 + x8)) then (if x9 = 1 then (some false) else (plaitinglaw13_StateWalks.l0 k x2 x8 x9 x10 (wrap64 (x11 + 1)) (wrap64 (x13 + 1)) x139000 x139001 x139002 x139003 x139004 x139005)) else (plaitinglaw13_StateWalks.l0 k x2 x8 x9 x10 (wrap64 (x11 + 1)) (wrap64 (x13 + 1)) x139000 x139001 x139002 x139003 x139004 x139005)))) else (some false)) else (if x9 = 2 then (if x15 = 1 then (if (wrap64 (x11 + 1)) = (wrap64 (x139000 + x8)) then (if x10 < 0 then (some false) else (if x10 ≥ (wrap64 (x139000 + x8)) then (if x9 = 1 then (some false) else (plaitinglaw13_StateWalks.l0 k x2 x8 x9 x10 (wrap64 (x11 + 1)) (wrap64 (x13 + 1)) x139000 x139001 x139002 x139003 x139004 x139005)) else (plaitinglaw13_StateWalks.l0 k x2 x8 x9 x10 (wrap64 (x11 + 1)) (wrap64 (x13 + 1)) x139000 x139001 x139002 x139003 x139004 x139005))) else (some false)) else (some false)) else (if x10 < 0 then (some false) else (if x10 ≥ (wrap64 (x139000 + x8)) then (if x9 = 1 then (some false) else (plaitinglaw13_StateWalks.l0 k x2 x8 x9 x10 (wrap64 (x11 + 1)) (wrap64 (x13 + 1)) x139000 x139001 x139002 x139003 x139004 x139005)) else (plaitinglaw13_StateWalks.l0 k x2 x8 x9 x10 (wrap64 (x11 + 1)) (wrap64 (x13 + 1)) x139000 x139001 x139002 x139003 x139004 x139005))))))) else (if x9 < 1 then (some false) else (if x9 > 4 then (some false) else (if x9 = 4 then (if x12 = true then (if x9 = 2 then (if x15 = 1 then (if 0 = (wrap64 (x139000 + x8)) then (if x10 < 0 then (some false) else (if x10 ≥ (wrap64 (x139000 + x8)) then (if x9 = 1 then (some false) else (plaitinglaw13_StateWalks.l0 k x2 x8 x9 x10 0 (wrap64 (x13 + 1)) x139000 x139001 x139002 x139003 x139004 x139005)) else (plaitinglaw13_StateWalks.l0 k x2 x8 x9 x10 0 (wrap64 (x13 + 1)) x139000 x139001 x139002 x139003 x139004 x139005))) else (some false)) else (some false)) else (if x10 < 0 then (some false) else (if x10 ≥ (wrap64 (x139000 + x8)) then (if x9 = 1 then (some false) else (plaitinglaw13_StateWalks.l0 k x2 x8 x9 x10 0 (wrap64 (x13 + 1)) x139000 x139001 x139002 x139003 x139004 x139005)) else (plaitinglaw13_StateWalks.l0 k x2 x8 x9 x10 0 (wrap64 (x13 + 1)) x139000 x139001 x139002 x139003 x139004 x139005)))) else (some false)) else (if x9 = 2 then (if x15 = 1 then (if 0 = (wrap64 (x139000 + x8)) then (if x10 < 0 then (some false) else (if x10 ≥ (wrap64 (x139000 + x8)) then (if x9 = 1 then (some false) else (plaitinglaw13_StateWalks.l0 k x2 x8 x9 x10 0 (wrap64 (x13 + 1)) x139000 x139001 x139002 x139003 x139004 x139005)) else (plaitinglaw13_StateWalks.l0 k x2 x8 x9 x10 0 (wrap64 (x13 + 1)) x139000 x139001 x139002 x139003 x139004 x139005))) else (some false)) else (some false)) else (if x10 < 0 then (some false) else (if x10 ≥ (wrap64 (x139000 + x8)) then (if x9 = 1 then (some false) else (plaitinglaw13_StateWalks.l0 k x2 x8 x9 x10 0 (wrap64 (x13 + 1)) x139000 x139001 x139002 x139003 x139004 x139005)) else (plaitinglaw13_StateWalks.l0 k x2 x8 x9 x10 0 (wrap64 (x13 + 1)) x139000 x139001 x139002 x139003 x139004 x139005)))))))
end
def plaitinglaw13_StateWalks.f (k : Nat) (a0_0 : Int) (a0_1 : Int) (a0_2 : Int) (a0_3 : Int) (a0_4 : Int) (l0_5 : List Int) (a1 : Int) (l2 : List Int) : Option (Bool) := (plaitinglaw13_known.f).bind fun t129 => (if t129 = true then ((plaitinglaw3_Make.f k a0_0 a0_1 a0_2 a0_3 a0_4 l0_5).bind fun bt130 => ((plaitinglaw13_within.f a1 bt130.1).bind fun t139 => (plaitinglaw13_StateWalks.l0 k l2 t139 1 0 0 0 bt130.1 bt130.2.1 bt130.2.2.1 bt130.2.2.2.1 bt130.2.2.2.2.1 bt130.2.2.2.2.2))) else (some false))
theorem plaitinglaw13_StateWalks.mono_l : ∀ k, (∀ y0 y1 y2 y3 y4 y5 y6 y7 y8 y9 y10 y11, LeO (plaitinglaw13_StateWalks.l0 k y0 y1 y2 y3 y4 y5 y6 y7 y8 y9 y10 y11) (plaitinglaw13_StateWalks.l0 (k + 1) y0 y1 y2 y3 y4 y5 y6 y7 y8 y9 y10 y11)) ∧ (∀ y0 y1 y2 y3 y4 y5 y6 y7 y8 y9 y10 y11 y12, LeO (plaitinglaw13_StateWalks.j1 k y0 y1 y2 y3 y4 y5 y6 y7 y8 y9 y10 y11 y12) (plaitinglaw13_StateWalks.j1 (k + 1) y0 y1 y2 y3 y4 y5 y6 y7 y8 y9 y10 y11 y12)) ∧ (∀ y0 y1 y2 y3 y4 y5 y6 y7 y8 y9 y10 y11 y12, LeO (plaitinglaw13_StateWalks.j2 k y0 y1 y2 y3 y4 y5 y6 y7 y8 y9 y10 y11 y12) (plaitinglaw13_StateWalks.j2 (k + 1) y0 y1 y2 y3 y4 y5 y6 y7 y8 y9 y10 y11 y12)) ∧ (∀ y0 y1 y2 y3 y4 y5 y6 y7 y8 y9 y10 y11 y12 y13 y14, LeO (plaitinglaw13_StateWalks.j3 k y0 y1 y2 y3 y4 y5 y6 y7 y8 y9 y10 y11 y12 y13 y14) (plaitinglaw13_StateWalks.j3 (k + 1) y0 y1 y2 y3 y4 y5 y6 y7 y8 y9 y10 y11 y12 y13 y14))
  | 0 => ⟨fun _ _ _ _ _ _ _ _ _ _ _ _ r h => by simp [plaitinglaw13_StateWalks.l0] at h, fun _ _ _ _ _ _ _ _ _ _ _ _ _ r h => by simp [plaitinglaw13_StateWalks.j1] at h, fun _ _ _ _ _ _ _ _ _ _ _ _ _ r h => by simp [plaitinglaw13_StateWalks.j2] at h, fun _ _ _ _ _ _ _ _ _ _ _ _ _ _ _ r h => by simp [plaitinglaw13_StateWalks.j3] at h⟩
  | k + 1 => by
    obtain ⟨ih0, ih1, ih2, ih3⟩ := plaitinglaw13_StateWalks.mono_l k
    refine ⟨?_, ?_, ?_, ?_⟩
    · intro y0 y1 y2 y3 y4 y5 y6 y7 y8 y9 y10 y11
      unfold plaitinglaw13_StateWalks.l0
      repeat' first
      | (with_reducible exact ih0 _ _ _ _ _ _ _ _ _ _ _ _)
      | (with_reducible exact ih1 _ _ _ _ _ _ _ _ _ _ _ _ _)
      | (with_reducible exact ih2 _ _ _ _ _ _ _ _ _ _ _ _ _)
      | (with_reducible exact ih3 _ _ _ _ _ _ _ _ _ _ _ _ _ _ _)
      | (with_reducible exact plaitinglaw3_Make.mono _ _ _ _ _ _ _)
      | (with_reducible exact LeO.refl _)
      | (with_reducible exact LeO.none _)
      | (with_reducible refine LeO.ite ?_ ?_)
      | (with_reducible refine LeO.bind ?_ (fun _ => ?_))
      | exact ih0 _ _ _ _ _ _ _ _ _ _ _ _
      | exact ih1 _ _ _ _ _ _ _ _ _ _ _ _ _
      | exact ih2 _ _ _ _ _ _ _ _ _ _ _ _ _
      | exact ih3 _ _ _ _ _ _ _ _ _ _ _ _ _ _ _
      | exact plaitinglaw3_Make.mono _ _ _ _ _ _ _
      | exact LeO.none _
      | refine LeO.ite ?_ ?_
      | refine LeO.bind ?_ (fun _ => ?_)
    · intro y0 y1 y2 y3 y4 y5 y6 y7 y8 y9 y10 y11 y12
      unfold plaitinglaw13_StateWalks.j1
      repeat' first
      | (with_reducible exact ih0 _ _ _ _ _ _ _ _ _ _ _ _)
      | (with_reducible exact ih1 _ _ _ _ _ _ _ _ _ _ _ _ _)
      | (with_reducible exact ih2 _ _ _ _ _ _ _ _ _ _ _ _ _)
      | (with_reducible exact ih3 _ _ _ _ _ _ _ _ _ _ _ _ _ _ _)
      | (with_reducible exact plaitinglaw3_Make.mono _ _ _ _ _ _ _)
      | (with_reducible exact LeO.refl _)
      | (with_reducible exact LeO.none _)
      | (with_reducible refine LeO.ite ?_ ?_)
      | (with_reducible refine LeO.bind ?_ (fun _ => ?_))
      | exact ih0 _ _ _ _ _ _ _ _ _ _ _ _
      | exact ih1 _ _ _ _ _ _ _ _ _ _ _ _ _
      | exact ih2 _ _ _ _ _ _ _ _ _ _ _ _ _
      | exact ih3 _ _ _ _ _ _ _ _ _ _ _ _ _ _ _
      | exact plaitinglaw3_Make.mono _ _ _ _ _ _ _
      | exact LeO.none _
      | refine LeO.ite ?_ ?_
      | refine LeO.bind ?_ (fun _ => ?_)
    · intro y0 y1 y2 y3 y4 y5 y6 y7 y8 y9 y10 y11 y12
      unfold plaitinglaw13_StateWalks.j2
      repeat' first
      | (with_reducible exact ih0 _ _ _ _ _ _ _ _ _ _ _ _)
      | (with_reducible exact ih1 _ _ _ _ _ _ _ _ _ _ _ _ _)
      | (with_reducible exact ih2 _ _ _ _ _ _ _ _ _ _ _ _ _)
      | (with_reducible exact ih3 _ _ _ _ _ _ _ _ _ _ _ _ _ _ _)
      | (with_reducible exact plaitinglaw3_Make.mono _ _ _ _ _ _ _)
      | (with_reducible exact LeO.refl _)
      | (with_reducible exact LeO.none _)
      | (with_reducible refine LeO.ite ?_ ?_)
      | (with_reducible refine LeO.bind ?_ (fun _ => ?_))
      | exact ih0 _ _ _ _ _ _ _ _ _ _ _ _
      | exact ih1 _ _ _ _ _ _ _ _ _ _ _ _ _
      | exact ih2 _ _ _ _ _ _ _ _ _ _ _ _ _
      | exact ih3 _ _ _ _ _ _ _ _ _ _ _ _ _ _ _
      | exact plaitinglaw3_Make.mono _ _ _ _ _ _ _
      | exact LeO.none _
      | refine LeO.ite ?_ ?_
      | refine LeO.bind ?_ (fun _ => ?_)
    · intro y0 y1 y2 y3 y4 y5 y6 y7 y8 y9 y10 y11 y12 y13 y14
      unfold plaitinglaw13_StateWalks.j3
      repeat' first
      | (with_reducible exact ih0 _ _ _ _ _ _ _ _ _ _ _ _)
      | (with_reducible exact ih1 _ _ _ _ _ _ _ _ _ _ _ _ _)
      | (with_reducible exact ih2 _ _ _ _ _ _ _ _ _ _ _ _ _)
      | (with_reducible exact ih3 _ _ _ _ _ _ _ _ _ _ _ _ _ _ _)
      | (with_reducible exact plaitinglaw3_Make.mono _ _ _ _ _ _ _)
      | (with_reducible exact LeO.refl _)
      | (with_reducible exact LeO.none _)
      | (with_reducible refine LeO.ite ?_ ?_)
      | (with_reducible refine LeO.bind ?_ (fun _ => ?_))
      | exact ih0 _ _ _ _ _ _ _ _ _ _ _ _
      | exact ih1 _ _ _ _ _ _ _ _ _ _ _ _ _
      | exact ih2 _ _ _ _ _ _ _ _ _ _ _ _ _
      | exact ih3 _ _ _ _ _ _ _ _ _ _ _ _ _ _ _
      | exact plaitinglaw3_Make.mono _ _ _ _ _ _ _
      | exact LeO.none _
      | refine LeO.ite ?_ ?_
      | refine LeO.bind ?_ (fun _ => ?_)
theorem plaitinglaw13_StateWalks.mono : ∀ a0 a1 a2 a3 a4 a5 a6 a7 k, LeO (plaitinglaw13_StateWalks.f k a0 a1 a2 a3 a4 a5 a6 a7) (plaitinglaw13_StateWalks.f (k + 1) a0 a1 a2 a3 a4 a5 a6 a7) := by
  intro a0 a1 a2 a3 a4 a5 a6 a7 k
  obtain ⟨ih0, ih1, ih2, ih3⟩ := plaitinglaw13_StateWalks.mono_l k
  unfold plaitinglaw13_StateWalks.f
  repeat' first
      | (with_reducible exact ih0 _ _ _ _ _ _ _ _ _ _ _ _)
      | (with_reducible exact ih1 _ _ _ _ _ _ _ _ _ _ _ _ _)
      | (with_reducible exact ih2 _ _ _ _ _ _ _ _ _ _ _ _ _)
      | (with_reducible exact ih3 _ _ _ _ _ _ _ _ _ _ _ _ _ _ _)
      | (with_reducible exact plaitinglaw3_Make.mono _ _ _ _ _ _ _)
      | (with_reducible exact LeO.refl _)
      | (with_reducible exact LeO.none _)
      | (with_reducible refine LeO.ite ?_ ?_)
      | (with_reducible refine LeO.bind ?_ (fun _ => ?_))
      | exact ih0 _ _ _ _ _ _ _ _ _ _ _ _
      | exact ih1 _ _ _ _ _ _ _ _ _ _ _ _ _
      | exact ih2 _ _ _ _ _ _ _ _ _ _ _ _ _
      | exact ih3 _ _ _ _ _ _ _ _ _ _ _ _ _ _ _
      | exact plaitinglaw3_Make.mono _ _ _ _ _ _ _
      | exact LeO.none _
      | refine LeO.ite ?_ ?_
      | refine LeO.bind ?_ (fun _ => ?_)
set_option maxHeartbeats 8000000 in
set_option maxRecDepth 100000 in
theorem plaitinglaw13_StateWalks.calls (k : Nat) (a0_0 : Int) (a0_1 : Int) (a0_2 : Int) (a0_3 : Int) (a0_4 : Int) (A0_5 : Option Addr) (c0_5 : Nat) (l0_5 : List Int) (a1 : Int) (A2 : Option Addr) (c2 : Nat) (l2 : List Int) (r : Bool) (w : World) (hr_ : r = true) (hr0_5 : Kd.C (Kd.int .i64) w A0_5 l0_5.length l0_5) (hc0_5 : l0_5.length ≤ c0_5) (hr2 : Kd.C (Kd.int .i64) w A2 l2.length l2) (hc2 : l2.length ≤ c2) (h : plaitinglaw13_StateWalks.f k a0_0 a0_1 a0_2 a0_3 a0_4 l0_5 a1 l2 = some r) :
    Calls Try.prog 8 #[.agg #[.int .i64 a0_0, .int .i64 a0_1, .int .i64 a0_2, .int .i64 a0_3, .int .i64 a0_4, .slice A0_5 l0_5.length c0_5], .int .i64 a1, .slice A2 l2.length c2] w fun e w' => e = .returned (.bool r) ∧ Below w.heap.size w w' := by
  have HR_ := Aside0.mk hr_
  clear hr_
  have hu24 := Try.underlying24
  have HR0_5 := Aside0.mk hr0_5
  have HC0_5 := Aside0.mk hc0_5
  clear hr0_5 hc0_5
  have HR2 := Aside0.mk hr2
  have HC2 := Aside0.mk hc2
  clear hr2 hc2
  have HB := Aside0.mk (Below.refl w.heap.size w)
  have H : ((plaitinglaw13_known.f).bind fun t129 => (if t129 = true then ((plaitinglaw3_Make.f k a0_0 a0_1 a0_2 a0_3 a0_4 l0_5).bind fun bt130 => ((plaitinglaw13_within.f a1 bt130.1).bind fun t139 => (plaitinglaw13_StateWalks.l0 k l2 t139 1 0 0 0 bt130.1 bt130.2.1 bt130.2.2.1 bt130.2.2.2.1 bt130.2.2.2.2.1 bt130.2.2.2.2.2))) else (some false))) = some r := h
  clear h
  replace H := Option.bind_eq_some_iff.mp H
  obtain ⟨t129, A40, H⟩ := H
  replace H : (if t129 = true then ((plaitinglaw3_Make.f k a0_0 a0_1 a0_2 a0_3 a0_4 l0_5).bind fun bt130 => ((plaitinglaw13_within.f a1 bt130.1).bind fun t139 => (plaitinglaw13_StateWalks.l0 k l2 t139 1 0 0 0 bt130.1 bt130.2.1 bt130.2.2.1 bt130.2.2.2.1 bt130.2.2.2.2.1 bt130.2.2.2.2.2))) else (some false)) = some r := H
  have A4 := Aside0.mk A40
  clear A40
  by_cases c5 : t129 = true
  · subst c5
    have H1 : ((plaitinglaw3_Make.f k a0_0 a0_1 a0_2 a0_3 a0_4 l0_5).bind fun bt130 => ((plaitinglaw13_within.f a1 bt130.1).bind fun t139 => (plaitinglaw13_StateWalks.l0 k l2 t139 1 0 0 0 bt130.1 bt130.2.1 bt130.2.2.1 bt130.2.2.2.1 bt130.2.2.2.2.1 bt130.2.2.2.2.2))) = some r := by rw [if_pos rfl] at H; exact H
    clear H
    have H := H1
    clear H1
    replace H := Option.bind_eq_some_iff.mp H
    obtain ⟨⟨t130, t131, t132, t133, t134, t135⟩, A60, H⟩ := H
    replace H : ((plaitinglaw13_within.f a1 t130).bind fun t139 => (plaitinglaw13_StateWalks.l0 k l2 t139 1 0 0 0 t130 t131 t132 t133 t134 t135)) = some r := H
    have A6 := Aside0.mk A60
    clear A60
    replace H := Option.bind_eq_some_iff.mp H
    obtain ⟨t139, A70, H⟩ := H
    replace H : (plaitinglaw13_StateWalks.l0 k l2 t139 1 0 0 0 t130 t131 t132 t133 t134 t135) = some r := H
    have A7 := Aside0.mk A70
    clear A70
    have H' := Aside0.mk H
    clear H
    go_enter Try.func8, Try.ntmps8
    go_wp2_with (first | ((with_reducible refine gate_dst (N := 3) rfl ?_); refine box_event ?hg (N := 3) ?hd (cs := #[.int .i64 a0_0, .int .i64 a0_1, .int .i64 a0_2, .int .i64 a0_3, .int .i64 a0_4, .slice A0_5 l0_5.length c0_5]) (t := 24) ?hr ?_; (case hd => rfl); (case hg => rfl); (case hr => first | (go_simp; done) | (go_simp; rfl)); intro gb128 hg w8 hbox hb; have n0_ := Aside0.mk (below_step (by repeat (first | (with_reducible first | exact HB.out | apply below_alloc | apply pw_below_drewN | apply below_drew1) | exact HB.out)) hb); have n1_ := Aside0.mk (hbox); have n2_ := Aside0.mk ((by rw [hg]; exact (below_size (by repeat (first | (with_reducible first | exact HB.out | apply below_alloc | apply pw_below_drewN | apply below_drew1) | exact HB.out))) : w.heap.size ≤ gb128)); have n3_ := Aside0.mk ((by rw [hg]; exact (below_size (by repeat (first | (with_reducible first | exact HB.out | apply below_alloc | apply pw_below_drewN | apply below_drew1) | exact HB.out))) : w.heap.size ≤ gb128)); clear HB; have HB := n0_; have BK128 := n1_; have GW128 := n2_; have GE128 := n3_; clear n0_ n1_ n2_ n3_; clear hb hbox hg) | (go_at_call 9; (with_reducible refine (plaitinglaw13_known.calls  true _ A4.out).mono ?_); rintro e w9 ⟨rfl, hb⟩; have n0_ := Aside0.mk (blk_below (g := gb128) (o := .cells #[.int .i64 a0_0, .int .i64 a0_1, .int .i64 a0_2, .int .i64 a0_3, .int .i64 a0_4, .slice A0_5 l0_5.length c0_5] 24 (0, 0)) (by (with_reducible repeat (first | refine blk_drewN ?_ _ | refine blk_drew ?_ | refine blk_alloc ?_ _)); exact BK128.out) hb); have n1_ := Aside0.mk (below_step (by repeat (first | (with_reducible first | exact HB.out | apply below_alloc | apply pw_below_drewN | apply below_drew1 | refine below_set ?_ GE128.out) | exact HB.out)) hb); clear BK128; clear HB; have BK128 := n0_; have HB := n1_; clear n0_ n1_; (try clear hb); (try clear hb2); (try clear hk); (try clear hi); have hcz10_0 : w9.cell? ⟨gb128, 0, none⟩ = some (.int .i64 a0_0) := (blk_cell BK128.out 0).trans rfl; have hcz10_1 : w9.cell? ⟨gb128, 1, none⟩ = some (.int .i64 a0_1) := (blk_cell BK128.out 1).trans rfl; have hcz10_2 : w9.cell? ⟨gb128, 2, none⟩ = some (.int .i64 a0_2) := (blk_cell BK128.out 2).trans rfl; have hcz10_3 : w9.cell? ⟨gb128, 3, none⟩ = some (.int .i64 a0_3) := (blk_cell BK128.out 3).trans rfl; have hcz10_4 : w9.cell? ⟨gb128, 4, none⟩ = some (.int .i64 a0_4) := (blk_cell BK128.out 4).trans rfl; have hcz10_5 : w9.cell? ⟨gb128, 5, none⟩ = some (.slice A0_5 l0_5.length c0_5) := (blk_cell BK128.out 5).trans rfl; have hfz10_0 := blk_frozen BK128.out 0; have hfz10_1 := blk_frozen BK128.out 1; have hfz10_2 := blk_frozen BK128.out 2; have hfz10_3 := blk_frozen BK128.out 3; have hfz10_4 := blk_frozen BK128.out 4; have hfz10_5 := blk_frozen BK128.out 5) | (go_at_call 10; (with_reducible refine (plaitinglaw3_Make.calls k a0_0 a0_1 a0_2 a0_3 a0_4 _ _ l0_5 t130 t131 t132 t133 t134 t135 _ ?side1 ?side2 A6.out).mono ?_); (case side1 => repeat (first | exact (Kd.C_below HR0_5.out HB.out) | (with_reducible refine Kd.C_alloc ?_ _) | (with_reducible refine Kd.C_drewN ?_ _) | (with_reducible refine Kd.C_drew ?_))); (case side2 => exact HC0_5.out); rintro e w11 ⟨v136, rfl, ho0, hb⟩; have n0_ := Aside0.mk (Kd.R_lower ho0 (below_size (by repeat (first | (with_reducible first | exact HB.out | apply below_alloc | apply pw_below_drewN | apply below_drew1 | refine below_set ?_ GE128.out) | exact HB.out)))); have n1_ := Aside0.mk (blk_below (g := gb128) (o := .cells #[.int .i64 a0_0, .int .i64 a0_1, .int .i64 a0_2, .int .i64 a0_3, .int .i64 a0_4, .slice A0_5 l0_5.length c0_5] 24 (0, 0)) (by (with_reducible repeat (first | refine blk_drewN ?_ _ | refine blk_drew ?_ | refine blk_alloc ?_ _)); exact BK128.out) hb); have n2_ := Aside0.mk (below_step (by repeat (first | (with_reducible first | exact HB.out | apply below_alloc | apply pw_below_drewN | apply below_drew1 | refine below_set ?_ GE128.out) | exact HB.out)) hb); clear BK128; clear HB; have HO137 := n0_; have BK128 := n1_; have HB := n2_; clear n0_ n1_ n2_; (try clear hb); (try clear hb2); (try clear hk); (try clear hi); (try clear ho0)) | ((with_reducible refine gate_dst (N := 7) rfl ?_); refine box_event ?hg (N := 7) ?hd (cs := #[.int .i64 0, .int .i64 0, .int .i64 0, .int .i64 0, .int .i64 0, .slice none 0 0]) (t := 24) ?hr ?_; (case hd => rfl); (case hg => rfl); (case hr => first | (go_simp; done) | (go_simp; rfl)); intro gb138 hg w12 hbox hb; have n0_ := Aside0.mk (Kd.R_below (by (with_reducible repeat (first | apply Kd.R_alloc | apply Kd.R_drewN | apply Kd.R_drew)); exact HO137.out) hb); have n1_ := Aside0.mk (blk_below (g := gb128) (o := .cells #[.int .i64 a0_0, .int .i64 a0_1, .int .i64 a0_2, .int .i64 a0_3, .int .i64 a0_4, .slice A0_5 l0_5.length c0_5] 24 (0, 0)) (by (with_reducible repeat (first | refine blk_drewN ?_ _ | refine blk_drew ?_ | refine blk_alloc ?_ _)); exact BK128.out) hb); have n2_ := Aside0.mk (below_step (by repeat (first | (with_reducible first | exact HB.out | apply below_alloc | apply pw_below_drewN | apply below_drew1 | refine below_set ?_ GE128.out) | exact HB.out)) hb); have n3_ := Aside0.mk (hbox); have n4_ := Aside0.mk ((by rw [hg]; exact (below_size (by repeat (first | (with_reducible first | exact HB.out | apply below_alloc | apply pw_below_drewN | apply below_drew1 | refine below_set ?_ GE128.out) | exact HB.out))) : w.heap.size ≤ gb138)); have n5_ := Aside0.mk ((by rw [hg]; exact (below_size (by repeat (first | (with_reducible first | exact HB.out | apply below_alloc | apply pw_below_drewN | apply below_drew1 | refine below_set ?_ GE128.out) | exact HB.out))) : w.heap.size ≤ gb138)); have n6_ := Aside0.mk ((by rw [hg]; exact Nat.ne_of_lt (blk_lt (g := gb128) (o := .cells #[.int .i64 a0_0, .int .i64 a0_1, .int .i64 a0_2, .int .i64 a0_3, .int .i64 a0_4, .slice A0_5 l0_5.length c0_5] 24 (0, 0)) (by (with_reducible repeat (first | refine blk_drewN ?_ _ | refine blk_drew ?_ | refine blk_alloc ?_ _)); exact BK128.out)) : gb128 ≠ gb138)); have n7_ := Aside0.mk ((by rw [hg]; exact Nat.ne_of_gt (blk_lt (g := gb128) (o := .cells #[.int .i64 a0_0, .int .i64 a0_1, .int .i64 a0_2, .int .i64 a0_3, .int .i64 a0_4, .slice A0_5 l0_5.length c0_5] 24 (0, 0)) (by (with_reducible repeat (first | refine blk_drewN ?_ _ | refine blk_drew ?_ | refine blk_alloc ?_ _)); exact BK128.out)) : gb138 ≠ gb128)); clear HO137; clear BK128; clear HB; have HO137 := n0_; have BK128 := n1_; have HB := n2_; have BK138 := n3_; have GW138 := n4_; have GE138 := n5_; have NB128_138 := n6_; have NB138_128 := n7_; clear n0_ n1_ n2_ n3_ n4_ n5_ n6_ n7_; clear hb hbox hg; have hnb13 := NB138_128.out; have hnc13 := NB128_138.out; have hcz14_0 : w12.cell? ⟨gb138, 0, none⟩ = some (.int .i64 0) := (blk_cell BK138.out 0).trans rfl; have hcz14_1 : w12.cell? ⟨gb138, 1, none⟩ = some (.int .i64 0) := (blk_cell BK138.out 1).trans rfl; have hcz14_2 : w12.cell? ⟨gb138, 2, none⟩ = some (.int .i64 0) := (blk_cell BK138.out 2).trans rfl; have hcz14_3 : w12.cell? ⟨gb138, 3, none⟩ = some (.int .i64 0) := (blk_cell BK138.out 3).trans rfl; have hcz14_4 : w12.cell? ⟨gb138, 4, none⟩ = some (.int .i64 0) := (blk_cell BK138.out 4).trans rfl; have hcz14_5 : w12.cell? ⟨gb138, 5, none⟩ = some (.slice none 0 0) := (blk_cell BK138.out 5).trans rfl; have hfz14_0 := blk_frozen BK138.out 0; have hfz14_1 := blk_frozen BK138.out 1; have hfz14_2 := blk_frozen BK138.out 2; have hfz14_3 := blk_frozen BK138.out 3; have hfz14_4 := blk_frozen BK138.out 4; have hfz14_5 := blk_frozen BK138.out 5; obtain ⟨Ao15, co15, eo15⟩ := Kd.R_slice HO137.out; subst eo15) | (go_at_call 11; (with_reducible refine (plaitinglaw13_within.calls a1 t130 t139 _ A7.out).mono ?_); rintro e w' ⟨rfl, ⟨nd, rfl⟩⟩; (try first | exact ⟨rfl, _, World.drewN_drewN _ _ _⟩ | exact ⟨rfl, _, Eq.trans (World.drewN_drewN _ _ _) (congrArg (World.drewN _) (Nat.add_assoc _ _ _))⟩)))
    repeat (go_quiet (first | ((with_reducible refine gate_dst (N := 3) rfl ?_); refine box_event ?hg (N := 3) ?hd (cs := #[.int .i64 a0_0, .int .i64 a0_1, .int .i64 a0_2, .int .i64 a0_3, .int .i64 a0_4, .slice A0_5 l0_5.length c0_5]) (t := 24) ?hr ?_; (case hd => rfl); (case hg => rfl); (case hr => first | (go_simp; done) | (go_simp; rfl)); intro gb128 hg w8 hbox hb; have n0_ := Aside0.mk (below_step (by repeat (first | (with_reducible first | exact HB.out | apply below_alloc | apply pw_below_drewN | apply below_drew1) | exact HB.out)) hb); have n1_ := Aside0.mk (hbox); have n2_ := Aside0.mk ((by rw [hg]; exact (below_size (by repeat (first | (with_reducible first | exact HB.out | apply below_alloc | apply pw_below_drewN | apply below_drew1) | exact HB.out))) : w.heap.size ≤ gb128)); have n3_ := Aside0.mk ((by rw [hg]; exact (below_size (by repeat (first | (with_reducible first | exact HB.out | apply below_alloc | apply pw_below_drewN | apply below_drew1) | exact HB.out))) : w.heap.size ≤ gb128)); clear HB; have HB := n0_; have BK128 := n1_; have GW128 := n2_; have GE128 := n3_; clear n0_ n1_ n2_ n3_; clear hb hbox hg) | (go_at_call 9; (with_reducible refine (plaitinglaw13_known.calls  true _ A4.out).mono ?_); rintro e w9 ⟨rfl, hb⟩; have n0_ := Aside0.mk (blk_below (g := gb128) (o := .cells #[.int .i64 a0_0, .int .i64 a0_1, .int .i64 a0_2, .int .i64 a0_3, .int .i64 a0_4, .slice A0_5 l0_5.length c0_5] 24 (0, 0)) (by (with_reducible repeat (first | refine blk_drewN ?_ _ | refine blk_drew ?_ | refine blk_alloc ?_ _)); exact BK128.out) hb); have n1_ := Aside0.mk (below_step (by repeat (first | (with_reducible first | exact HB.out | apply below_alloc | apply pw_below_drewN | apply below_drew1 | refine below_set ?_ GE128.out) | exact HB.out)) hb); clear BK128; clear HB; have BK128 := n0_; have HB := n1_; clear n0_ n1_; (try clear hb); (try clear hb2); (try clear hk); (try clear hi); have hcz10_0 : w9.cell? ⟨gb128, 0, none⟩ = some (.int .i64 a0_0) := (blk_cell BK128.out 0).trans rfl; have hcz10_1 : w9.cell? ⟨gb128, 1, none⟩ = some (.int .i64 a0_1) := (blk_cell BK128.out 1).trans rfl; have hcz10_2 : w9.cell? ⟨gb128, 2, none⟩ = some (.int .i64 a0_2) := (blk_cell BK128.out 2).trans rfl; have hcz10_3 : w9.cell? ⟨gb128, 3, none⟩ = some (.int .i64 a0_3) := (blk_cell BK128.out 3).trans rfl; have hcz10_4 : w9.cell? ⟨gb128, 4, none⟩ = some (.int .i64 a0_4) := (blk_cell BK128.out 4).trans rfl; have hcz10_5 : w9.cell? ⟨gb128, 5, none⟩ = some (.slice A0_5 l0_5.length c0_5) := (blk_cell BK128.out 5).trans rfl; have hfz10_0 := blk_frozen BK128.out 0; have hfz10_1 := blk_frozen BK128.out 1; have hfz10_2 := blk_frozen BK128.out 2; have hfz10_3 := blk_frozen BK128.out 3; have hfz10_4 := blk_frozen BK128.out 4; have hfz10_5 := blk_frozen BK128.out 5) | (go_at_call 10; (with_reducible refine (plaitinglaw3_Make.calls k a0_0 a0_1 a0_2 a0_3 a0_4 _ _ l0_5 t130 t131 t132 t133 t134 t135 _ ?side1 ?side2 A6.out).mono ?_); (case side1 => repeat (first | exact (Kd.C_below HR0_5.out HB.out) | (with_reducible refine Kd.C_alloc ?_ _) | (with_reducible refine Kd.C_drewN ?_ _) | (with_reducible refine Kd.C_drew ?_))); (case side2 => exact HC0_5.out); rintro e w11 ⟨v136, rfl, ho0, hb⟩; have n0_ := Aside0.mk (Kd.R_lower ho0 (below_size (by repeat (first | (with_reducible first | exact HB.out | apply below_alloc | apply pw_below_drewN | apply below_drew1 | refine below_set ?_ GE128.out) | exact HB.out)))); have n1_ := Aside0.mk (blk_below (g := gb128) (o := .cells #[.int .i64 a0_0, .int .i64 a0_1, .int .i64 a0_2, .int .i64 a0_3, .int .i64 a0_4, .slice A0_5 l0_5.length c0_5] 24 (0, 0)) (by (with_reducible repeat (first | refine blk_drewN ?_ _ | refine blk_drew ?_ | refine blk_alloc ?_ _)); exact BK128.out) hb); have n2_ := Aside0.mk (below_step (by repeat (first | (with_reducible first | exact HB.out | apply below_alloc | apply pw_below_drewN | apply below_drew1 | refine below_set ?_ GE128.out) | exact HB.out)) hb); clear BK128; clear HB; have HO137 := n0_; have BK128 := n1_; have HB := n2_; clear n0_ n1_ n2_; (try clear hb); (try clear hb2); (try clear hk); (try clear hi); (try clear ho0)) | ((with_reducible refine gate_dst (N := 7) rfl ?_); refine box_event ?hg (N := 7) ?hd (cs := #[.int .i64 0, .int .i64 0, .int .i64 0, .int .i64 0, .int .i64 0, .slice none 0 0]) (t := 24) ?hr ?_; (case hd => rfl); (case hg => rfl); (case hr => first | (go_simp; done) | (go_simp; rfl)); intro gb138 hg w12 hbox hb; have n0_ := Aside0.mk (Kd.R_below (by (with_reducible repeat (first | apply Kd.R_alloc | apply Kd.R_drewN | apply Kd.R_drew)); exact HO137.out) hb); have n1_ := Aside0.mk (blk_below (g := gb128) (o := .cells #[.int .i64 a0_0, .int .i64 a0_1, .int .i64 a0_2, .int .i64 a0_3, .int .i64 a0_4, .slice A0_5 l0_5.length c0_5] 24 (0, 0)) (by (with_reducible repeat (first | refine blk_drewN ?_ _ | refine blk_drew ?_ | refine blk_alloc ?_ _)); exact BK128.out) hb); have n2_ := Aside0.mk (below_step (by repeat (first | (with_reducible first | exact HB.out | apply below_alloc | apply pw_below_drewN | apply below_drew1 | refine below_set ?_ GE128.out) | exact HB.out)) hb); have n3_ := Aside0.mk (hbox); have n4_ := Aside0.mk ((by rw [hg]; exact (below_size (by repeat (first | (with_reducible first | exact HB.out | apply below_alloc | apply pw_below_drewN | apply below_drew1 | refine below_set ?_ GE128.out) | exact HB.out))) : w.heap.size ≤ gb138)); have n5_ := Aside0.mk ((by rw [hg]; exact (below_size (by repeat (first | (with_reducible first | exact HB.out | apply below_alloc | apply pw_below_drewN | apply below_drew1 | refine below_set ?_ GE128.out) | exact HB.out))) : w.heap.size ≤ gb138)); have n6_ := Aside0.mk ((by rw [hg]; exact Nat.ne_of_lt (blk_lt (g := gb128) (o := .cells #[.int .i64 a0_0, .int .i64 a0_1, .int .i64 a0_2, .int .i64 a0_3, .int .i64 a0_4, .slice A0_5 l0_5.length c0_5] 24 (0, 0)) (by (with_reducible repeat (first | refine blk_drewN ?_ _ | refine blk_drew ?_ | refine blk_alloc ?_ _)); exact BK128.out)) : gb128 ≠ gb138)); have n7_ := Aside0.mk ((by rw [hg]; exact Nat.ne_of_gt (blk_lt (g := gb128) (o := .cells #[.int .i64 a0_0, .int .i64 a0_1, .int .i64 a0_2, .int .i64 a0_3, .int .i64 a0_4, .slice A0_5 l0_5.length c0_5] 24 (0, 0)) (by (with_reducible repeat (first | refine blk_drewN ?_ _ | refine blk_drew ?_ | refine blk_alloc ?_ _)); exact BK128.out)) : gb138 ≠ gb128)); clear HO137; clear BK128; clear HB; have HO137 := n0_; have BK128 := n1_; have HB := n2_; have BK138 := n3_; have GW138 := n4_; have GE138 := n5_; have NB128_138 := n6_; have NB138_128 := n7_; clear n0_ n1_ n2_ n3_ n4_ n5_ n6_ n7_; clear hb hbox hg; have hnb13 := NB138_128.out; have hnc13 := NB128_138.out; have hcz14_0 : w12.cell? ⟨gb138, 0, none⟩ = some (.int .i64 0) := (blk_cell BK138.out 0).trans rfl; have hcz14_1 : w12.cell? ⟨gb138, 1, none⟩ = some (.int .i64 0) := (blk_cell BK138.out 1).trans rfl; have hcz14_2 : w12.cell? ⟨gb138, 2, none⟩ = some (.int .i64 0) := (blk_cell BK138.out 2).trans rfl; have hcz14_3 : w12.cell? ⟨gb138, 3, none⟩ = some (.int .i64 0) := (blk_cell BK138.out 3).trans rfl; have hcz14_4 : w12.cell? ⟨gb138, 4, none⟩ = some (.int .i64 0) := (blk_cell BK138.out 4).trans rfl; have hcz14_5 : w12.cell? ⟨gb138, 5, none⟩ = some (.slice none 0 0) := (blk_cell BK138.out 5).trans rfl; have hfz14_0 := blk_frozen BK138.out 0; have hfz14_1 := blk_frozen BK138.out 1; have hfz14_2 := blk_frozen BK138.out 2; have hfz14_3 := blk_frozen BK138.out 3; have hfz14_4 := blk_frozen BK138.out 4; have hfz14_5 := blk_frozen BK138.out 5; obtain ⟨Ao15, co15, eo15⟩ := Kd.R_slice HO137.out; subst eo15) | (go_at_call 11; (with_reducible refine (plaitinglaw13_within.calls a1 t130 t139 _ A7.out).mono ?_); rintro e w' ⟨rfl, ⟨nd, rfl⟩⟩; (try first | exact ⟨rfl, _, World.drewN_drewN _ _ _⟩ | exact ⟨rfl, _, Eq.trans (World.drewN_drewN _ _ _) (congrArg (World.drewN _) (Nat.add_assoc _ _ _))⟩))); try go_wp2_with (first | ((with_reducible refine gate_dst (N := 3) rfl ?_); refine box_event ?hg (N := 3) ?hd (cs := #[.int .i64 a0_0, .int .i64 a0_1, .int .i64 a0_2, .int .i64 a0_3, .int .i64 a0_4, .slice A0_5 l0_5.length c0_5]) (t := 24) ?hr ?_; (case hd => rfl); (case hg => rfl); (case hr => first | (go_simp; done) | (go_simp; rfl)); intro gb128 hg w8 hbox hb; have n0_ := Aside0.mk (below_step (by repeat (first | (with_reducible first | exact HB.out | apply below_alloc | apply pw_below_drewN | apply below_drew1) | exact HB.out)) hb); have n1_ := Aside0.mk (hbox); have n2_ := Aside0.mk ((by rw [hg]; exact (below_size (by repeat (first | (with_reducible first | exact HB.out | apply below_alloc | apply pw_below_drewN | apply below_drew1) | exact HB.out))) : w.heap.size ≤ gb128)); have n3_ := Aside0.mk ((by rw [hg]; exact (below_size (by repeat (first | (with_reducible first | exact HB.out | apply below_alloc | apply pw_below_drewN | apply below_drew1) | exact HB.out))) : w.heap.size ≤ gb128)); clear HB; have HB := n0_; have BK128 := n1_; have GW128 := n2_; have GE128 := n3_; clear n0_ n1_ n2_ n3_; clear hb hbox hg) | (go_at_call 9; (with_reducible refine (plaitinglaw13_known.calls  true _ A4.out).mono ?_); rintro e w9 ⟨rfl, hb⟩; have n0_ := Aside0.mk (blk_below (g := gb128) (o := .cells #[.int .i64 a0_0, .int .i64 a0_1, .int .i64 a0_2, .int .i64 a0_3, .int .i64 a0_4, .slice A0_5 l0_5.length c0_5] 24 (0, 0)) (by (with_reducible repeat (first | refine blk_drewN ?_ _ | refine blk_drew ?_ | refine blk_alloc ?_ _)); exact BK128.out) hb); have n1_ := Aside0.mk (below_step (by repeat (first | (with_reducible first | exact HB.out | apply below_alloc | apply pw_below_drewN | apply below_drew1 | refine below_set ?_ GE128.out) | exact HB.out)) hb); clear BK128; clear HB; have BK128 := n0_; have HB := n1_; clear n0_ n1_; (try clear hb); (try clear hb2); (try clear hk); (try clear hi); have hcz10_0 : w9.cell? ⟨gb128, 0, none⟩ = some (.int .i64 a0_0) := (blk_cell BK128.out 0).trans rfl; have hcz10_1 : w9.cell? ⟨gb128, 1, none⟩ = some (.int .i64 a0_1) := (blk_cell BK128.out 1).trans rfl; have hcz10_2 : w9.cell? ⟨gb128, 2, none⟩ = some (.int .i64 a0_2) := (blk_cell BK128.out 2).trans rfl; have hcz10_3 : w9.cell? ⟨gb128, 3, none⟩ = some (.int .i64 a0_3) := (blk_cell BK128.out 3).trans rfl; have hcz10_4 : w9.cell? ⟨gb128, 4, none⟩ = some (.int .i64 a0_4) := (blk_cell BK128.out 4).trans rfl; have hcz10_5 : w9.cell? ⟨gb128, 5, none⟩ = some (.slice A0_5 l0_5.length c0_5) := (blk_cell BK128.out 5).trans rfl; have hfz10_0 := blk_frozen BK128.out 0; have hfz10_1 := blk_frozen BK128.out 1; have hfz10_2 := blk_frozen BK128.out 2; have hfz10_3 := blk_frozen BK128.out 3; have hfz10_4 := blk_frozen BK128.out 4; have hfz10_5 := blk_frozen BK128.out 5) | (go_at_call 10; (with_reducible refine (plaitinglaw3_Make.calls k a0_0 a0_1 a0_2 a0_3 a0_4 _ _ l0_5 t130 t131 t132 t133 t134 t135 _ ?side1 ?side2 A6.out).mono ?_); (case side1 => repeat (first | exact (Kd.C_below HR0_5.out HB.out) | (with_reducible refine Kd.C_alloc ?_ _) | (with_reducible refine Kd.C_drewN ?_ _) | (with_reducible refine Kd.C_drew ?_))); (case side2 => exact HC0_5.out); rintro e w11 ⟨v136, rfl, ho0, hb⟩; have n0_ := Aside0.mk (Kd.R_lower ho0 (below_size (by repeat (first | (with_reducible first | exact HB.out | apply below_alloc | apply pw_below_drewN | apply below_drew1 | refine below_set ?_ GE128.out) | exact HB.out)))); have n1_ := Aside0.mk (blk_below (g := gb128) (o := .cells #[.int .i64 a0_0, .int .i64 a0_1, .int .i64 a0_2, .int .i64 a0_3, .int .i64 a0_4, .slice A0_5 l0_5.length c0_5] 24 (0, 0)) (by (with_reducible repeat (first | refine blk_drewN ?_ _ | refine blk_drew ?_ | refine blk_alloc ?_ _)); exact BK128.out) hb); have n2_ := Aside0.mk (below_step (by repeat (first | (with_reducible first | exact HB.out | apply below_alloc | apply pw_below_drewN | apply below_drew1 | refine below_set ?_ GE128.out) | exact HB.out)) hb); clear BK128; clear HB; have HO137 := n0_; have BK128 := n1_; have HB := n2_; clear n0_ n1_ n2_; (try clear hb); (try clear hb2); (try clear hk); (try clear hi); (try clear ho0)) | ((with_reducible refine gate_dst (N := 7) rfl ?_); refine box_event ?hg (N := 7) ?hd (cs := #[.int .i64 0, .int .i64 0, .int .i64 0, .int .i64 0, .int .i64 0, .slice none 0 0]) (t := 24) ?hr ?_; (case hd => rfl); (case hg => rfl); (case hr => first | (go_simp; done) | (go_simp; rfl)); intro gb138 hg w12 hbox hb; have n0_ := Aside0.mk (Kd.R_below (by (with_reducible repeat (first | apply Kd.R_alloc | apply Kd.R_drewN | apply Kd.R_drew)); exact HO137.out) hb); have n1_ := Aside0.mk (blk_below (g := gb128) (o := .cells #[.int .i64 a0_0, .int .i64 a0_1, .int .i64 a0_2, .int .i64 a0_3, .int .i64 a0_4, .slice A0_5 l0_5.length c0_5] 24 (0, 0)) (by (with_reducible repeat (first | refine blk_drewN ?_ _ | refine blk_drew ?_ | refine blk_alloc ?_ _)); exact BK128.out) hb); have n2_ := Aside0.mk (below_step (by repeat (first | (with_reducible first | exact HB.out | apply below_alloc | apply pw_below_drewN | apply below_drew1 | refine below_set ?_ GE128.out) | exact HB.out)) hb); have n3_ := Aside0.mk (hbox); have n4_ := Aside0.mk ((by rw [hg]; exact (below_size (by repeat (first | (with_reducible first | exact HB.out | apply below_alloc | apply pw_below_drewN | apply below_drew1 | refine below_set ?_ GE128.out) | exact HB.out))) : w.heap.size ≤ gb138)); have n5_ := Aside0.mk ((by rw [hg]; exact (below_size (by repeat (first | (with_reducible first | exact HB.out | apply below_alloc | apply pw_below_drewN | apply below_drew1 | refine below_set ?_ GE128.out) | exact HB.out))) : w.heap.size ≤ gb138)); have n6_ := Aside0.mk ((by rw [hg]; exact Nat.ne_of_lt (blk_lt (g := gb128) (o := .cells #[.int .i64 a0_0, .int .i64 a0_1, .int .i64 a0_2, .int .i64 a0_3, .int .i64 a0_4, .slice A0_5 l0_5.length c0_5] 24 (0, 0)) (by (with_reducible repeat (first | refine blk_drewN ?_ _ | refine blk_drew ?_ | refine blk_alloc ?_ _)); exact BK128.out)) : gb128 ≠ gb138)); have n7_ := Aside0.mk ((by rw [hg]; exact Nat.ne_of_gt (blk_lt (g := gb128) (o := .cells #[.int .i64 a0_0, .int .i64 a0_1, .int .i64 a0_2, .int .i64 a0_3, .int .i64 a0_4, .slice A0_5 l0_5.length c0_5] 24 (0, 0)) (by (with_reducible repeat (first | refine blk_drewN ?_ _ | refine blk_drew ?_ | refine blk_alloc ?_ _)); exact BK128.out)) : gb138 ≠ gb128)); clear HO137; clear BK128; clear HB; have HO137 := n0_; have BK128 := n1_; have HB := n2_; have BK138 := n3_; have GW138 := n4_; have GE138 := n5_; have NB128_138 := n6_; have NB138_128 := n7_; clear n0_ n1_ n2_ n3_ n4_ n5_ n6_ n7_; clear hb hbox hg; have hnb13 := NB138_128.out; have hnc13 := NB128_138.out; have hcz14_0 : w12.cell? ⟨gb138, 0, none⟩ = some (.int .i64 0) := (blk_cell BK138.out 0).trans rfl; have hcz14_1 : w12.cell? ⟨gb138, 1, none⟩ = some (.int .i64 0) := (blk_cell BK138.out 1).trans rfl; have hcz14_2 : w12.cell? ⟨gb138, 2, none⟩ = some (.int .i64 0) := (blk_cell BK138.out 2).trans rfl; have hcz14_3 : w12.cell? ⟨gb138, 3, none⟩ = some (.int .i64 0) := (blk_cell BK138.out 3).trans rfl; have hcz14_4 : w12.cell? ⟨gb138, 4, none⟩ = some (.int .i64 0) := (blk_cell BK138.out 4).trans rfl; have hcz14_5 : w12.cell? ⟨gb138, 5, none⟩ = some (.slice none 0 0) := (blk_cell BK138.out 5).trans rfl; have hfz14_0 := blk_frozen BK138.out 0; have hfz14_1 := blk_frozen BK138.out 1; have hfz14_2 := blk_frozen BK138.out 2; have hfz14_3 := blk_frozen BK138.out 3; have hfz14_4 := blk_frozen BK138.out 4; have hfz14_5 := blk_frozen BK138.out 5; obtain ⟨Ao15, co15, eo15⟩ := Kd.R_slice HO137.out; subst eo15) | (go_at_call 11; (with_reducible refine (plaitinglaw13_within.calls a1 t130 t139 _ A7.out).mono ?_); rintro e w' ⟨rfl, ⟨nd, rfl⟩⟩; (try first | exact ⟨rfl, _, World.drewN_drewN _ _ _⟩ | exact ⟨rfl, _, Eq.trans (World.drewN_drewN _ _ _) (congrArg (World.drewN _) (Nat.add_assoc _ _ _))⟩))))
    go_loopg [9, 10, 11, 13] k (fun kq v9 v10 v11 v13 w' => ∃ (x9_1 : Int) (x10_1 : Int) (x11_1 : Int) (x13_1 : Int), v9 = .int .i64 x9_1 ∧ v10 = .int .i64 x10_1 ∧ v11 = .int .i64 x11_1 ∧ v13 = .int .i64 x13_1 ∧ Aside0 (plaitinglaw13_StateWalks.l0 kq l2 t139 x9_1 x10_1 x11_1 x13_1 t130 t131 t132 t133 t134 t135 = some r) ∧ Aside0 (kq ≤ k) ∧ Aside0 (Kd.R (Kd.int .i64) 3 w' w.heap.size (fun _ => True) (.slice Ao15 t135.length co15) t135) ∧ Aside0 (w'.heap[gb128]? = some (.cells #[.int .i64 a0_0, .int .i64 a0_1, .int .i64 a0_2, .int .i64 a0_3, .int .i64 a0_4, (.slice A0_5 l0_5.length c0_5)] 24 (0, 0))) ∧ Aside0 (w'.heap[gb138]? = some (.cells #[.int .i64 t130, .int .i64 t131, .int .i64 t132, .int .i64 t133, .int .i64 t134, (.slice Ao15 t135.length co15)] 24 (0, 0))) ∧ Aside0 (Below w.heap.size w w'))
    case atStart => exact ⟨(1), (0), (0), (0), (by first | rfl | (simp; done) | (simp [*]; done)), (by first | rfl | (simp; done) | (simp [*]; done)), (by first | rfl | (simp; done) | (simp [*]; done)), (by first | rfl | (simp; done) | (simp [*]; done)), H', ⟨Nat.le_refl _⟩, ⟨by (with_reducible repeat (first | apply Kd.R_alloc | apply Kd.R_drewN | apply Kd.R_drew)); exact Kd.R_mono (Kd.R_far (p := ⟨gb138, 5, none⟩) (Kd.R_far (p := ⟨gb138, 4, none⟩) (Kd.R_far (p := ⟨gb138, 3, none⟩) (Kd.R_far (p := ⟨gb138, 2, none⟩) (Kd.R_far (p := ⟨gb138, 1, none⟩) (Kd.R_far (p := ⟨gb138, 0, none⟩) (Kd.R_types HO137.out BK138.out (by decide)) (fun _ hk => hk.2) (.int .i64 t130)) (fun _ hk => hk.2) (.int .i64 t131)) (fun _ hk => hk.2) (.int .i64 t132)) (fun _ hk => hk.2) (.int .i64 t133)) (fun _ hk => hk.2) (.int .i64 t134)) (fun _ hk => hk.2) (.slice Ao15 t135.length co15)) (fun _ hk => trivial)⟩, ⟨by (with_reducible repeat (first | refine blk_drewN ?_ _ | refine blk_drew ?_ | refine blk_alloc ?_ _)); refine blk_far ?_ NB128_138.out _; (with_reducible repeat (first | refine blk_drewN ?_ _ | refine blk_drew ?_ | refine blk_alloc ?_ _)); refine blk_far ?_ NB128_138.out _; (with_reducible repeat (first | refine blk_drewN ?_ _ | refine blk_drew ?_ | refine blk_alloc ?_ _)); refine blk_far ?_ NB128_138.out _; (with_reducible repeat (first | refine blk_drewN ?_ _ | refine blk_drew ?_ | refine blk_alloc ?_ _)); refine blk_far ?_ NB128_138.out _; (with_reducible repeat (first | refine blk_drewN ?_ _ | refine blk_drew ?_ | refine blk_alloc ?_ _)); refine blk_far ?_ NB128_138.out _; (with_reducible repeat (first | refine blk_drewN ?_ _ | refine blk_drew ?_ | refine blk_alloc ?_ _)); refine blk_far ?_ NB128_138.out _; (with_reducible repeat (first | refine blk_drewN ?_ _ | refine blk_drew ?_ | refine blk_alloc ?_ _)); exact BK128.out⟩, ⟨by (with_reducible repeat (first | refine blk_drewN ?_ _ | refine blk_drew ?_ | refine blk_alloc ?_ _)); refine blk_put (cs := #[.int .i64 t130, .int .i64 t131, .int .i64 t132, .int .i64 t133, .int .i64 t134, .slice none 0 0]) ?_ 5 _ rfl; (with_reducible repeat (first | refine blk_drewN ?_ _ | refine blk_drew ?_ | refine blk_alloc ?_ _)); refine blk_put (cs := #[.int .i64 t130, .int .i64 t131, .int .i64 t132, .int .i64 t133, .int .i64 0, .slice none 0 0]) ?_ 4 _ rfl; (with_reducible repeat (first | refine blk_drewN ?_ _ | refine blk_drew ?_ | refine blk_alloc ?_ _)); refine blk_put (cs := #[.int .i64 t130, .int .i64 t131, .int .i64 t132, .int .i64 0, .int .i64 0, .slice none 0 0]) ?_ 3 _ rfl; (with_reducible repeat (first | refine blk_drewN ?_ _ | refine blk_drew ?_ | refine blk_alloc ?_ _)); refine blk_put (cs := #[.int .i64 t130, .int .i64 t131, .int .i64 0, .int .i64 0, .int .i64 0, .slice none 0 0]) ?_ 2 _ rfl; (with_reducible repeat (first | refine blk_drewN ?_ _ | refine blk_drew ?_ | refine blk_alloc ?_ _)); refine blk_put (cs := #[.int .i64 t130, .int .i64 0, .int .i64 0, .int .i64 0, .int .i64 0, .slice none 0 0]) ?_ 1 _ rfl; (with_reducible repeat (first | refine blk_drewN ?_ _ | refine blk_drew ?_ | refine blk_alloc ?_ _)); refine blk_put (cs := #[.int .i64 0, .int .i64 0, .int .i64 0, .int .i64 0, .int .i64 0, .slice none 0 0]) ?_ 0 _ rfl; (with_reducible repeat (first | refine blk_drewN ?_ _ | refine blk_drew ?_ | refine blk_alloc ?_ _)); exact BK138.out⟩, ⟨by repeat (first | (with_reducible first | exact HB.out | apply below_alloc | apply pw_below_drewN | apply below_drew1 | refine below_set ?_ GE128.out | refine below_set ?_ GE138.out) | exact HB.out)⟩⟩
    case round =>
      clear H'
      try clear c1
      try clear c2
      try clear p2
      try clear c5
      try clear c8
      try clear c13
      try clear hcz10_0
      try clear hcz10_1
      try clear hcz10_2
      try clear hcz10_3
      try clear hcz10_4
      try clear hcz10_5
      try clear hcz14_0
      try clear hcz14_1
      try clear hcz14_2
      try clear hcz14_3
      try clear hcz14_4
      try clear hcz14_5
      try clear hfz10_0
      try clear hfz10_1
      try clear hfz10_2
      try clear hfz10_3
      try clear hfz10_4
      try clear hfz10_5
      try clear hfz14_0
      try clear hfz14_1
      try clear hfz14_2
      try clear hfz14_3
      try clear hfz14_4
      try clear hfz14_5
      obtain ⟨x9_1, x10_1, x11_1, x13_1, rfl, rfl, rfl, rfl, HA, HK1, HO_139005, BK128, BK138, HB⟩ := hrel
      cases gk with
      | zero => exact absurd HA.out (by simp [plaitinglaw13_StateWalks.l0])
      | succ k1 =>
        have H := HA.out
        clear HA
        simp only [plaitinglaw13_StateWalks.l0] at H
        have HC16 := Aside0.mk H
        clear H
        go_upto_region 8 with (fail)
        repeat (go_quiet (fail); go_upto_region 8 with (fail))
        go_cut [31] (fun v31 wc => ∃ (kq : Nat) (x31_15 : Bool), v31 = .bool x31_15 ∧ Aside0 (plaitinglaw13_StateWalks.j1 kq l2 t139 x9_1 x10_1 x11_1 x13_1 x31_15 t130 t131 t132 t133 t134 t135 = some r) ∧ Aside0 (kq ≤ k1) ∧ Aside0 (Kd.R (Kd.int .i64) 3 wc w.heap.size (fun _ => True) (.slice Ao15 t135.length co15) t135) ∧ Aside0 (wc.heap[gb128]? = some (.cells #[.int .i64 a0_0, .int .i64 a0_1, .int .i64 a0_2, .int .i64 a0_3, .int .i64 a0_4, (.slice A0_5 l0_5.length c0_5)] 24 (0, 0))) ∧ Aside0 (wc.heap[gb138]? = some (.cells #[.int .i64 t130, .int .i64 t131, .int .i64 t132, .int .i64 t133, .int .i64 t134, (.slice Ao15 t135.length co15)] 24 (0, 0))) ∧ Aside0 (Below w.heap.size w wc))
        case first =>
          have H := HC16.out
          clear HC16
          by_cases c17 : x13_1 < (l2.length : Int)
          · rw [if_pos c17] at H
            have c17b0 : decide (x13_1 < (l2.length : Int)) = true := decide_eq_true c17
            clear c17
            (first | rw [c17b0] | (simp only [i64_w, i32_w]; rw [c17b0]) | skip)
            have H' := Aside0.mk H
            clear H
            go_wp2
            repeat (go_quiet (fail); try go_wp2)
            go_meet
            case rel => exact ⟨_, (decide (x13_1 < 100)), (by first | rfl | (simp; done) | (simp [*]; done)), H', ⟨by have := HK1.out; first | omega | exact Nat.le_refl _⟩, ⟨by (with_reducible repeat (first | apply Kd.R_alloc | apply Kd.R_drewN | apply Kd.R_drew)); exact HO_139005.out⟩, ⟨by (with_reducible repeat (first | refine blk_drewN ?_ _ | refine blk_drew ?_ | refine blk_alloc ?_ _)); exact BK128.out⟩, ⟨by (with_reducible repeat (first | refine blk_drewN ?_ _ | refine blk_drew ?_ | refine blk_alloc ?_ _)); exact BK138.out⟩, ⟨by repeat (first | (with_reducible first | exact HB.out | apply below_alloc | apply pw_below_drewN | apply below_drew1 | refine below_set ?_ GE128.out | refine below_set ?_ GE138.out) | exact HB.out)⟩⟩
          · rw [if_neg c17] at H
            have c17b0 : decide (x13_1 < (l2.length : Int)) = false := decide_eq_false c17
            clear c17
            (first | rw [c17b0] | (simp only [i64_w, i32_w]; rw [c17b0]) | skip)
            have H' := Aside0.mk H
            clear H
            go_wp2
            repeat (go_quiet (fail); try go_wp2)
            go_meet
            case rel => exact ⟨_, (false), (by first | rfl | (simp; done) | (simp [*]; done)), H', ⟨by have := HK1.out; first | omega | exact Nat.le_refl _⟩, ⟨by (with_reducible repeat (first | apply Kd.R_alloc | apply Kd.R_drewN | apply Kd.R_drew)); exact HO_139005.out⟩, ⟨by (with_reducible repeat (first | refine blk_drewN ?_ _ | refine blk_drew ?_ | refine blk_alloc ?_ _)); exact BK128.out⟩, ⟨by (with_reducible repeat (first | refine blk_drewN ?_ _ | refine blk_drew ?_ | refine blk_alloc ?_ _)); exact BK138.out⟩, ⟨by repeat (first | (with_reducible first | exact HB.out | apply below_alloc | apply pw_below_drewN | apply below_drew1 | refine below_set ?_ GE128.out | refine below_set ?_ GE138.out) | exact HB.out)⟩⟩
        case rest =>
          clear HC16
          try clear c1
          try clear c2
          try clear p2
          try clear c5
          try clear c8
          try clear c13
          try clear c17
          try clear c17b0
          try clear hcz10_0
          try clear hcz10_1
          try clear hcz10_2
          try clear hcz10_3
          try clear hcz10_4
          try clear hcz10_5
          try clear hcz14_0
          try clear hcz14_1
          try clear hcz14_2
          try clear hcz14_3
          try clear hcz14_4
          try clear hcz14_5
          try clear hfz10_0
          try clear hfz10_1
          try clear hfz10_2
          try clear hfz10_3
          try clear hfz10_4
          try clear hfz10_5
          try clear hfz14_0
          try clear hfz14_1
          try clear hfz14_2
          try clear hfz14_3
          try clear hfz14_4
          try clear hfz14_5
          try clear p2
          obtain ⟨kq, x31_15, rfl, HA, HJ15, HO_139005, BK128, BK138, HB⟩ := hcut
          cases kq with
          | zero => exact absurd HA.out (by simp [plaitinglaw13_StateWalks.j1])
          | succ kj15 =>
            have H := HA.out
            clear HA
            simp only [plaitinglaw13_StateWalks.j1] at H
            by_cases c18 : x31_15 = true
            · subst c18
              have H1 : (if 0 ≤ x13_1 then (if x13_1 < (l2.length : Int) then ((plaitinglaw13_within.f (rd l2 x13_1) t130).bind fun t141 => ((plaitinglaw13_within.f (wrap64 (Int.tdiv (rd l2 x13_1) 64)) 3).bind fun t143 => (if t143 > 0 then (plaitinglaw13_StateWalks.j2 kj15 l2 t139 x9_1 x10_1 x11_1 x13_1 0 t130 t131 t132 t133 t134 t135) else (plaitinglaw13_StateWalks.j2 kj15 l2 t139 x9_1 x10_1 x11_1 x13_1 t141 t130 t131 t132 t133 t134 t135)))) else (none)) else (none)) = some r := by rw [if_pos rfl] at H; exact H
              clear H
              have H := H1
              clear H1
              by_cases c19 : 0 ≤ x13_1
              · rw [if_pos c19] at H
                have c19b0 : decide (0 ≤ x13_1) = true := decide_eq_true c19
                clear c19
                by_cases c20 : x13_1 < (l2.length : Int)
                · rw [if_pos c20] at H
                  have c20b0 : decide (x13_1 < (l2.length : Int)) = true := decide_eq_true c20
                  clear c20
                  replace H := Option.bind_eq_some_iff.mp H
                  obtain ⟨t141, A210, H⟩ := H
                  replace H : ((plaitinglaw13_within.f (wrap64 (Int.tdiv (rd l2 x13_1) 64)) 3).bind fun t143 => (if t143 > 0 then (plaitinglaw13_StateWalks.j2 kj15 l2 t139 x9_1 x10_1 x11_1 x13_1 0 t130 t131 t132 t133 t134 t135) else (plaitinglaw13_StateWalks.j2 kj15 l2 t139 x9_1 x10_1 x11_1 x13_1 t141 t130 t131 t132 t133 t134 t135))) = some r := H
                  have A21 := Aside0.mk A210
                  clear A210
                  replace H := Option.bind_eq_some_iff.mp H
                  obtain ⟨t143, A220, H⟩ := H
                  replace H : (if t143 > 0 then (plaitinglaw13_StateWalks.j2 kj15 l2 t139 x9_1 x10_1 x11_1 x13_1 0 t130 t131 t132 t133 t134 t135) else (plaitinglaw13_StateWalks.j2 kj15 l2 t139 x9_1 x10_1 x11_1 x13_1 t141 t130 t131 t132 t133 t134 t135)) = some r := H
                  have A22 := Aside0.mk A220
                  clear A220
                  have HC23 := Aside0.mk H
                  clear H
                  have p140 : 0 ≤ (x13_1 : Int) := of_decide_eq_true (by first | (with_reducible assumption) | assumption)
                  have q140 : x13_1 < (l2.length : Int) := of_decide_eq_true (by first | (with_reducible assumption) | assumption)
                  obtain ⟨ad140, e140, hx140_0⟩ := Kd.at_int HR2.out x13_1 p140 q140
                  cases e140
                  replace hx140_0 := (HB.out.cell (World.block_lt_of_cell? w _ hx140_0)).trans hx140_0
                  replace p140 := eq_true p140
                  replace q140 := eq_true q140
                  have hnb24 := NB138_128.out
                  have hnc24 := NB128_138.out
                  have hcz25_0 : wc.cell? ⟨gb138, 0, none⟩ = some (.int .i64 t130) := (blk_cell BK138.out 0).trans rfl
                  have hcz25_1 : wc.cell? ⟨gb138, 1, none⟩ = some (.int .i64 t131) := (blk_cell BK138.out 1).trans rfl
                  have hcz25_2 : wc.cell? ⟨gb138, 2, none⟩ = some (.int .i64 t132) := (blk_cell BK138.out 2).trans rfl
                  have hcz25_3 : wc.cell? ⟨gb138, 3, none⟩ = some (.int .i64 t133) := (blk_cell BK138.out 3).trans rfl
                  have hcz25_4 : wc.cell? ⟨gb138, 4, none⟩ = some (.int .i64 t134) := (blk_cell BK138.out 4).trans rfl
                  have hcz25_5 : wc.cell? ⟨gb138, 5, none⟩ = some (.slice Ao15 t135.length co15) := (blk_cell BK138.out 5).trans rfl
                  have hfz25_0 := blk_frozen BK138.out 0
                  have hfz25_1 := blk_frozen BK138.out 1
                  have hfz25_2 := blk_frozen BK138.out 2
                  have hfz25_3 := blk_frozen BK138.out 3
                  have hfz25_4 := blk_frozen BK138.out 4
                  have hfz25_5 := blk_frozen BK138.out 5
                  go_upto_if 47 with (first | (go_at_call 11; (with_reducible refine (plaitinglaw13_within.calls (rd l2 x13_1) t130 t141 _ A21.out).mono ?_); rintro e w' ⟨rfl, ⟨nd, rfl⟩⟩; (try first | exact ⟨rfl, _, World.drewN_drewN _ _ _⟩ | exact ⟨rfl, _, Eq.trans (World.drewN_drewN _ _ _) (congrArg (World.drewN _) (Nat.add_assoc _ _ _))⟩); have p142 : 0 ≤ (x13_1 : Int) := of_decide_eq_true (by first | (with_reducible assumption) | assumption); have q142 : x13_1 < (l2.length : Int) := of_decide_eq_true (by first | (with_reducible assumption) | assumption); obtain ⟨ad142, e142, hx142_0⟩ := Kd.at_int HR2.out x13_1 p142 q142; obtain rfl : ad140 = ad142 := (by injection e142); replace hx142_0 := (HB.out.cell (World.block_lt_of_cell? w _ hx142_0)).trans hx142_0; replace p142 := eq_true p142; replace q142 := eq_true q142) | (go_at_call 11; (with_reducible refine (plaitinglaw13_within.calls (wrap64 (Int.tdiv (rd l2 x13_1) 64)) 3 t143 _ A22.out).mono ?_); rintro e w' ⟨rfl, ⟨nd, rfl⟩⟩; (try first | exact ⟨rfl, _, World.drewN_drewN _ _ _⟩ | exact ⟨rfl, _, Eq.trans (World.drewN_drewN _ _ _) (congrArg (World.drewN _) (Nat.add_assoc _ _ _))⟩)))
                  repeat (go_quiet (first | (go_at_call 11; (with_reducible refine (plaitinglaw13_within.calls (rd l2 x13_1) t130 t141 _ A21.out).mono ?_); rintro e w' ⟨rfl, ⟨nd, rfl⟩⟩; (try first | exact ⟨rfl, _, World.drewN_drewN _ _ _⟩ | exact ⟨rfl, _, Eq.trans (World.drewN_drewN _ _ _) (congrArg (World.drewN _) (Nat.add_assoc _ _ _))⟩); have p142 : 0 ≤ (x13_1 : Int) := of_decide_eq_true (by first | (with_reducible assumption) | assumption); have q142 : x13_1 < (l2.length : Int) := of_decide_eq_true (by first | (with_reducible assumption) | assumption); obtain ⟨ad142, e142, hx142_0⟩ := Kd.at_int HR2.out x13_1 p142 q142; obtain rfl : ad140 = ad142 := (by injection e142); replace hx142_0 := (HB.out.cell (World.block_lt_of_cell? w _ hx142_0)).trans hx142_0; replace p142 := eq_true p142; replace q142 := eq_true q142) | (go_at_call 11; (with_reducible refine (plaitinglaw13_within.calls (wrap64 (Int.tdiv (rd l2 x13_1) 64)) 3 t143 _ A22.out).mono ?_); rintro e w' ⟨rfl, ⟨nd, rfl⟩⟩; (try first | exact ⟨rfl, _, World.drewN_drewN _ _ _⟩ | exact ⟨rfl, _, Eq.trans (World.drewN_drewN _ _ _) (congrArg (World.drewN _) (Nat.add_assoc _ _ _))⟩))); go_upto_if 47 with (first | (go_at_call 11; (with_reducible refine (plaitinglaw13_within.calls (rd l2 x13_1) t130 t141 _ A21.out).mono ?_); rintro e w' ⟨rfl, ⟨nd, rfl⟩⟩; (try first | exact ⟨rfl, _, World.drewN_drewN _ _ _⟩ | exact ⟨rfl, _, Eq.trans (World.drewN_drewN _ _ _) (congrArg (World.drewN _) (Nat.add_assoc _ _ _))⟩); have p142 : 0 ≤ (x13_1 : Int) := of_decide_eq_true (by first | (with_reducible assumption) | assumption); have q142 : x13_1 < (l2.length : Int) := of_decide_eq_true (by first | (with_reducible assumption) | assumption); obtain ⟨ad142, e142, hx142_0⟩ := Kd.at_int HR2.out x13_1 p142 q142; obtain rfl : ad140 = ad142 := (by injection e142); replace hx142_0 := (HB.out.cell (World.block_lt_of_cell? w _ hx142_0)).trans hx142_0; replace p142 := eq_true p142; replace q142 := eq_true q142) | (go_at_call 11; (with_reducible refine (plaitinglaw13_within.calls (wrap64 (Int.tdiv (rd l2 x13_1) 64)) 3 t143 _ A22.out).mono ?_); rintro e w' ⟨rfl, ⟨nd, rfl⟩⟩; (try first | exact ⟨rfl, _, World.drewN_drewN _ _ _⟩ | exact ⟨rfl, _, Eq.trans (World.drewN_drewN _ _ _) (congrArg (World.drewN _) (Nat.add_assoc _ _ _))⟩))))
                  (try simp only [Act.put, List.setIfInBounds_toArray, List.set_cons_zero, List.set_cons_succ])
                  go_cut [14] (fun v14 wc => ∃ (kq : Nat) (x14_22 : Int), v14 = .int .i64 x14_22 ∧ Aside0 (plaitinglaw13_StateWalks.j2 kq l2 t139 x9_1 x10_1 x11_1 x13_1 x14_22 t130 t131 t132 t133 t134 t135 = some r) ∧ Aside0 (kq ≤ kj15) ∧ Aside0 (Kd.R (Kd.int .i64) 3 wc w.heap.size (fun _ => True) (.slice Ao15 t135.length co15) t135) ∧ Aside0 (wc.heap[gb128]? = some (.cells #[.int .i64 a0_0, .int .i64 a0_1, .int .i64 a0_2, .int .i64 a0_3, .int .i64 a0_4, (.slice A0_5 l0_5.length c0_5)] 24 (0, 0))) ∧ Aside0 (wc.heap[gb138]? = some (.cells #[.int .i64 t130, .int .i64 t131, .int .i64 t132, .int .i64 t133, .int .i64 t134, (.slice Ao15 t135.length co15)] 24 (0, 0))) ∧ Aside0 (Below w.heap.size w wc))
                  case first =>
                    have H := HC23.out
                    clear HC23
                    by_cases c26 : t143 > 0
                    · rw [if_pos c26] at H
                      have c26b0 : decide (0 < t143) = true := decide_eq_true c26
                      clear c26
                      (first | rw [c26b0] | (simp only [i64_w, i32_w]; rw [c26b0]) | skip)
                      have H' := Aside0.mk H
                      clear H
                      go_wp2
                      repeat (go_quiet (fail); try go_wp2)
                      go_meet
                      case rel => exact ⟨_, (0), (by first | rfl | (simp; done) | (simp [*]; done)), H', ⟨by have := HK1.out; have := HJ15.out; first | omega | exact Nat.le_refl _⟩, ⟨by (with_reducible repeat (first | apply Kd.R_alloc | apply Kd.R_drewN | apply Kd.R_drew)); exact HO_139005.out⟩, ⟨by (with_reducible repeat (first | refine blk_drewN ?_ _ | refine blk_drew ?_ | refine blk_alloc ?_ _)); exact BK128.out⟩, ⟨by (with_reducible repeat (first | refine blk_drewN ?_ _ | refine blk_drew ?_ | refine blk_alloc ?_ _)); exact BK138.out⟩, ⟨by repeat (first | (with_reducible first | exact HB.out | apply below_alloc | apply pw_below_drewN | apply below_drew1 | refine below_set ?_ GE128.out | refine below_set ?_ GE138.out) | exact HB.out)⟩⟩
                    · rw [if_neg c26] at H
                      have c26b0 : decide (0 < t143) = false := decide_eq_false c26
                      clear c26
                      (first | rw [c26b0] | (simp only [i64_w, i32_w]; rw [c26b0]) | skip)
                      have H' := Aside0.mk H
                      clear H
                      go_wp2
                      repeat (go_quiet (fail); try go_wp2)
                      go_meet
                      case rel => exact ⟨_, (t141), (by first | rfl | (simp; done) | (simp [*]; done)), H', ⟨by have := HK1.out; have := HJ15.out; first | omega | exact Nat.le_refl _⟩, ⟨by (with_reducible repeat (first | apply Kd.R_alloc | apply Kd.R_drewN | apply Kd.R_drew)); exact HO_139005.out⟩, ⟨by (with_reducible repeat (first | refine blk_drewN ?_ _ | refine blk_drew ?_ | refine blk_alloc ?_ _)); exact BK128.out⟩, ⟨by (with_reducible repeat (first | refine blk_drewN ?_ _ | refine blk_drew ?_ | refine blk_alloc ?_ _)); exact BK138.out⟩, ⟨by repeat (first | (with_reducible first | exact HB.out | apply below_alloc | apply pw_below_drewN | apply below_drew1 | refine below_set ?_ GE128.out | refine below_set ?_ GE138.out) | exact HB.out)⟩⟩
                  case rest =>
                    clear HC23
                    try clear c1
                    try clear p1
                    try clear q1
                    try clear hx1
                    try clear c2
                    try clear p2
                    try clear c5
                    try clear p6
                    try clear c8
                    try clear c13
                    try clear p14
                    try clear q14
                    try clear hx14
                    try clear c17
                    try clear c17b0
                    try clear c18
                    try clear c19
                    try clear c19b0
                    try clear c20
                    try clear c20b0
                    try clear c24
                    try clear c26
                    try clear c26b0
                    try clear hcz10_0
                    try clear hcz10_1
                    try clear hcz10_2
                    try clear hcz10_3
                    try clear hcz10_4
                    try clear hcz10_5
                    try clear hcz14_0
                    try clear hcz14_1
                    try clear hcz14_2
                    try clear hcz14_3
                    try clear hcz14_4
                    try clear hcz14_5
                    try clear hcz25_0
                    try clear hcz25_1
                    try clear hcz25_2
                    try clear hcz25_3
                    try clear hcz25_4
                    try clear hcz25_5
                    try clear hfz10_0
                    try clear hfz10_1
                    try clear hfz10_2
                    try clear hfz10_3
                    try clear hfz10_4
                    try clear hfz10_5
                    try clear hfz14_0
                    try clear hfz14_1
                    try clear hfz14_2
                    try clear hfz14_3
                    try clear hfz14_4
                    try clear hfz14_5
                    try clear hfz25_0
                    try clear hfz25_1
                    try clear hfz25_2
                    try clear hfz25_3
                    try clear hfz25_4
                    try clear hfz25_5
                    try clear hx140_0
                    try clear hx142_0
                    try clear p140
                    try clear p142
                    try clear p2
                    try clear q140
                    try clear q142
                    obtain ⟨kq, x14_22, rfl, HA, HJ22, HO_139005, BK128, BK138, HB⟩ := hcut
                    cases kq with
                    | zero => exact absurd HA.out (by simp [plaitinglaw13_StateWalks.j2])
                    | succ kj22 =>
                      have H := HA.out
                      clear HA
                      simp only [plaitinglaw13_StateWalks.j2] at H
                      replace H := Option.bind_eq_some_iff.mp H
                      obtain ⟨⟨t144, t145⟩, A270, H⟩ := H
                      replace H : (if x9_1 = 1 then (plaitinglaw13_StateWalks.j3 kj22 l2 t139 t144 t145 x11_1 (decide ((wrap64 (2 * (wrap64 (x14_22 + 1)))) > t130)) x13_1 x9_1 (x14_22 == 0) t130 t131 t132 t133 t134 t135) else (plaitinglaw13_StateWalks.j3 kj22 l2 t139 t144 t145 x11_1 (decide ((wrap64 (2 * (wrap64 (x14_22 + 1)))) > t130)) x13_1 x9_1 false t130 t131 t132 t133 t134 t135)) = some r := H
                      have A27 := Aside0.mk A270
                      clear A270
                      have HC28 := Aside0.mk H
                      clear H
                      have hnb29 := NB138_128.out
                      have hnc29 := NB128_138.out
                      have hcz30_0 : wc.cell? ⟨gb138, 0, none⟩ = some (.int .i64 t130) := (blk_cell BK138.out 0).trans rfl
                      have hcz30_1 : wc.cell? ⟨gb138, 1, none⟩ = some (.int .i64 t131) := (blk_cell BK138.out 1).trans rfl
                      have hcz30_2 : wc.cell? ⟨gb138, 2, none⟩ = some (.int .i64 t132) := (blk_cell BK138.out 2).trans rfl
                      have hcz30_3 : wc.cell? ⟨gb138, 3, none⟩ = some (.int .i64 t133) := (blk_cell BK138.out 3).trans rfl
                      have hcz30_4 : wc.cell? ⟨gb138, 4, none⟩ = some (.int .i64 t134) := (blk_cell BK138.out 4).trans rfl
                      have hcz30_5 : wc.cell? ⟨gb138, 5, none⟩ = some (.slice Ao15 t135.length co15) := (blk_cell BK138.out 5).trans rfl
                      have hfz30_0 := blk_frozen BK138.out 0
                      have hfz30_1 := blk_frozen BK138.out 1
                      have hfz30_2 := blk_frozen BK138.out 2
                      have hfz30_3 := blk_frozen BK138.out 3
                      have hfz30_4 := blk_frozen BK138.out 4
                      have hfz30_5 := blk_frozen BK138.out 5
                      go_upto_region 16 with (first | (go_at_call 14; (with_reducible refine (state_Next.calls t130 t131 t132 t133 t134 _ _ t135 t139 x9_1 x10_1 x14_22 t144 t145 _ ?side1 ?side2 A27.out).mono ?_); (case side1 => repeat (first | exact (Kd.R_reads' HO_139005.out).2.2 | (with_reducible refine Kd.C_alloc ?_ _) | (with_reducible refine Kd.C_drewN ?_ _) | (with_reducible refine Kd.C_drew ?_))); (case side2 => exact (Kd.R_reads' HO_139005.out).2.1); rintro e w31 ⟨rfl, hb⟩; have n0_ := Aside0.mk (Kd.R_below (by (with_reducible repeat (first | apply Kd.R_alloc | apply Kd.R_drewN | apply Kd.R_drew)); exact HO_139005.out) hb); have n1_ := Aside0.mk (blk_below (g := gb128) (o := .cells #[.int .i64 a0_0, .int .i64 a0_1, .int .i64 a0_2, .int .i64 a0_3, .int .i64 a0_4, .slice A0_5 l0_5.length c0_5] 24 (0, 0)) (by (with_reducible repeat (first | refine blk_drewN ?_ _ | refine blk_drew ?_ | refine blk_alloc ?_ _)); exact BK128.out) hb); have n2_ := Aside0.mk (blk_below (g := gb138) (o := .cells #[.int .i64 t130, .int .i64 t131, .int .i64 t132, .int .i64 t133, .int .i64 t134, .slice Ao15 t135.length co15] 24 (0, 0)) (by (with_reducible repeat (first | refine blk_drewN ?_ _ | refine blk_drew ?_ | refine blk_alloc ?_ _)); exact BK138.out) hb); have n3_ := Aside0.mk (below_step (by repeat (first | (with_reducible first | exact HB.out | apply below_alloc | apply pw_below_drewN | apply below_drew1 | refine below_set ?_ GE128.out | refine below_set ?_ GE138.out) | exact HB.out)) hb); clear HO_139005; clear BK128; clear BK138; clear HB; have HO_139005 := n0_; have BK128 := n1_; have BK138 := n2_; have HB := n3_; clear n0_ n1_ n2_ n3_; (try clear hb); (try clear hb2); (try clear hk); (try clear hi); have hcz32_0 : w31.cell? ⟨gb138, 0, none⟩ = some (.int .i64 t130) := (blk_cell BK138.out 0).trans rfl; have hcz32_1 : w31.cell? ⟨gb138, 1, none⟩ = some (.int .i64 t131) := (blk_cell BK138.out 1).trans rfl; have hcz32_2 : w31.cell? ⟨gb138, 2, none⟩ = some (.int .i64 t132) := (blk_cell BK138.out 2).trans rfl; have hcz32_3 : w31.cell? ⟨gb138, 3, none⟩ = some (.int .i64 t133) := (blk_cell BK138.out 3).trans rfl; have hcz32_4 : w31.cell? ⟨gb138, 4, none⟩ = some (.int .i64 t134) := (blk_cell BK138.out 4).trans rfl; have hcz32_5 : w31.cell? ⟨gb138, 5, none⟩ = some (.slice Ao15 t135.length co15) := (blk_cell BK138.out 5).trans rfl; have hfz32_0 := blk_frozen BK138.out 0; have hfz32_1 := blk_frozen BK138.out 1; have hfz32_2 := blk_frozen BK138.out 2; have hfz32_3 := blk_frozen BK138.out 3; have hfz32_4 := blk_frozen BK138.out 4; have hfz32_5 := blk_frozen BK138.out 5))
                      repeat (go_quiet (first | (go_at_call 14; (with_reducible refine (state_Next.calls t130 t131 t132 t133 t134 _ _ t135 t139 x9_1 x10_1 x14_22 t144 t145 _ ?side1 ?side2 A27.out).mono ?_); (case side1 => repeat (first | exact (Kd.R_reads' HO_139005.out).2.2 | (with_reducible refine Kd.C_alloc ?_ _) | (with_reducible refine Kd.C_drewN ?_ _) | (with_reducible refine Kd.C_drew ?_))); (case side2 => exact (Kd.R_reads' HO_139005.out).2.1); rintro e w31 ⟨rfl, hb⟩; have n0_ := Aside0.mk (Kd.R_below (by (with_reducible repeat (first | apply Kd.R_alloc | apply Kd.R_drewN | apply Kd.R_drew)); exact HO_139005.out) hb); have n1_ := Aside0.mk (blk_below (g := gb128) (o := .cells #[.int .i64 a0_0, .int .i64 a0_1, .int .i64 a0_2, .int .i64 a0_3, .int .i64 a0_4, .slice A0_5 l0_5.length c0_5] 24 (0, 0)) (by (with_reducible repeat (first | refine blk_drewN ?_ _ | refine blk_drew ?_ | refine blk_alloc ?_ _)); exact BK128.out) hb); have n2_ := Aside0.mk (blk_below (g := gb138) (o := .cells #[.int .i64 t130, .int .i64 t131, .int .i64 t132, .int .i64 t133, .int .i64 t134, .slice Ao15 t135.length co15] 24 (0, 0)) (by (with_reducible repeat (first | refine blk_drewN ?_ _ | refine blk_drew ?_ | refine blk_alloc ?_ _)); exact BK138.out) hb); have n3_ := Aside0.mk (below_step (by repeat (first | (with_reducible first | exact HB.out | apply below_alloc | apply pw_below_drewN | apply below_drew1 | refine below_set ?_ GE128.out | refine below_set ?_ GE138.out) | exact HB.out)) hb); clear HO_139005; clear BK128; clear BK138; clear HB; have HO_139005 := n0_; have BK128 := n1_; have BK138 := n2_; have HB := n3_; clear n0_ n1_ n2_ n3_; (try clear hb); (try clear hb2); (try clear hk); (try clear hi); have hcz32_0 : w31.cell? ⟨gb138, 0, none⟩ = some (.int .i64 t130) := (blk_cell BK138.out 0).trans rfl; have hcz32_1 : w31.cell? ⟨gb138, 1, none⟩ = some (.int .i64 t131) := (blk_cell BK138.out 1).trans rfl; have hcz32_2 : w31.cell? ⟨gb138, 2, none⟩ = some (.int .i64 t132) := (blk_cell BK138.out 2).trans rfl; have hcz32_3 : w31.cell? ⟨gb138, 3, none⟩ = some (.int .i64 t133) := (blk_cell BK138.out 3).trans rfl; have hcz32_4 : w31.cell? ⟨gb138, 4, none⟩ = some (.int .i64 t134) := (blk_cell BK138.out 4).trans rfl; have hcz32_5 : w31.cell? ⟨gb138, 5, none⟩ = some (.slice Ao15 t135.length co15) := (blk_cell BK138.out 5).trans rfl; have hfz32_0 := blk_frozen BK138.out 0; have hfz32_1 := blk_frozen BK138.out 1; have hfz32_2 := blk_frozen BK138.out 2; have hfz32_3 := blk_frozen BK138.out 3; have hfz32_4 := blk_frozen BK138.out 4; have hfz32_5 := blk_frozen BK138.out 5)); go_upto_region 16 with (first | (go_at_call 14; (with_reducible refine (state_Next.calls t130 t131 t132 t133 t134 _ _ t135 t139 x9_1 x10_1 x14_22 t144 t145 _ ?side1 ?side2 A27.out).mono ?_); (case side1 => repeat (first | exact (Kd.R_reads' HO_139005.out).2.2 | (with_reducible refine Kd.C_alloc ?_ _) | (with_reducible refine Kd.C_drewN ?_ _) | (with_reducible refine Kd.C_drew ?_))); (case side2 => exact (Kd.R_reads' HO_139005.out).2.1); rintro e w31 ⟨rfl, hb⟩; have n0_ := Aside0.mk (Kd.R_below (by (with_reducible repeat (first | apply Kd.R_alloc | apply Kd.R_drewN | apply Kd.R_drew)); exact HO_139005.out) hb); have n1_ := Aside0.mk (blk_below (g := gb128) (o := .cells #[.int .i64 a0_0, .int .i64 a0_1, .int .i64 a0_2, .int .i64 a0_3, .int .i64 a0_4, .slice A0_5 l0_5.length c0_5] 24 (0, 0)) (by (with_reducible repeat (first | refine blk_drewN ?_ _ | refine blk_drew ?_ | refine blk_alloc ?_ _)); exact BK128.out) hb); have n2_ := Aside0.mk (blk_below (g := gb138) (o := .cells #[.int .i64 t130, .int .i64 t131, .int .i64 t132, .int .i64 t133, .int .i64 t134, .slice Ao15 t135.length co15] 24 (0, 0)) (by (with_reducible repeat (first | refine blk_drewN ?_ _ | refine blk_drew ?_ | refine blk_alloc ?_ _)); exact BK138.out) hb); have n3_ := Aside0.mk (below_step (by repeat (first | (with_reducible first | exact HB.out | apply below_alloc | apply pw_below_drewN | apply below_drew1 | refine below_set ?_ GE128.out | refine below_set ?_ GE138.out) | exact HB.out)) hb); clear HO_139005; clear BK128; clear BK138; clear HB; have HO_139005 := n0_; have BK128 := n1_; have BK138 := n2_; have HB := n3_; clear n0_ n1_ n2_ n3_; (try clear hb); (try clear hb2); (try clear hk); (try clear hi); have hcz32_0 : w31.cell? ⟨gb138, 0, none⟩ = some (.int .i64 t130) := (blk_cell BK138.out 0).trans rfl; have hcz32_1 : w31.cell? ⟨gb138, 1, none⟩ = some (.int .i64 t131) := (blk_cell BK138.out 1).trans rfl; have hcz32_2 : w31.cell? ⟨gb138, 2, none⟩ = some (.int .i64 t132) := (blk_cell BK138.out 2).trans rfl; have hcz32_3 : w31.cell? ⟨gb138, 3, none⟩ = some (.int .i64 t133) := (blk_cell BK138.out 3).trans rfl; have hcz32_4 : w31.cell? ⟨gb138, 4, none⟩ = some (.int .i64 t134) := (blk_cell BK138.out 4).trans rfl; have hcz32_5 : w31.cell? ⟨gb138, 5, none⟩ = some (.slice Ao15 t135.length co15) := (blk_cell BK138.out 5).trans rfl; have hfz32_0 := blk_frozen BK138.out 0; have hfz32_1 := blk_frozen BK138.out 1; have hfz32_2 := blk_frozen BK138.out 2; have hfz32_3 := blk_frozen BK138.out 3; have hfz32_4 := blk_frozen BK138.out 4; have hfz32_5 := blk_frozen BK138.out 5)))
                      (try simp only [Act.put, List.setIfInBounds_toArray, List.set_cons_zero, List.set_cons_succ])
                      go_cut [69] (fun v69 wc => ∃ (kq : Nat) (x69_27 : Bool), v69 = .bool x69_27 ∧ Aside0 (plaitinglaw13_StateWalks.j3 kq l2 t139 t144 t145 x11_1 (decide ((wrap64 (2 * (wrap64 (x14_22 + 1)))) > t130)) x13_1 x9_1 x69_27 t130 t131 t132 t133 t134 t135 = some r) ∧ Aside0 (kq ≤ kj22) ∧ Aside0 (Kd.R (Kd.int .i64) 3 wc w.heap.size (fun _ => True) (.slice Ao15 t135.length co15) t135) ∧ Aside0 (wc.heap[gb128]? = some (.cells #[.int .i64 a0_0, .int .i64 a0_1, .int .i64 a0_2, .int .i64 a0_3, .int .i64 a0_4, (.slice A0_5 l0_5.length c0_5)] 24 (0, 0))) ∧ Aside0 (wc.heap[gb138]? = some (.cells #[.int .i64 t130, .int .i64 t131, .int .i64 t132, .int .i64 t133, .int .i64 t134, (.slice Ao15 t135.length co15)] 24 (0, 0))) ∧ Aside0 (Below w.heap.size w wc))
                      case first =>
                        have H := HC28.out
                        clear HC28
                        by_cases c33 : x9_1 = 1
                        · rw [if_pos c33] at H
                          have c33b0 : (x9_1 == 1) = true := beq_iff_eq.mpr c33
                          have c33b1 : (x9_1 != 1) = false := bne_eq_false_iff_eq.mpr c33
                          clear c33
                          (first | rw [c33b0] | (simp only [i64_w, i32_w]; rw [c33b0]) | skip)
                          have H' := Aside0.mk H
                          clear H
                          go_wp2
                          repeat (go_quiet (fail); try go_wp2)
                          go_meet
                          case rel => exact ⟨_, ((x14_22 == 0)), (by first | rfl | (simp; done) | (simp [*]; done)), H', ⟨by have := HK1.out; have := HJ15.out; have := HJ22.out; first | omega | exact Nat.le_refl _⟩, ⟨by (with_reducible repeat (first | apply Kd.R_alloc | apply Kd.R_drewN | apply Kd.R_drew)); exact HO_139005.out⟩, ⟨by (with_reducible repeat (first | refine blk_drewN ?_ _ | refine blk_drew ?_ | refine blk_alloc ?_ _)); exact BK128.out⟩, ⟨by (with_reducible repeat (first | refine blk_drewN ?_ _ | refine blk_drew ?_ | refine blk_alloc ?_ _)); exact BK138.out⟩, ⟨by repeat (first | (with_reducible first | exact HB.out | apply below_alloc | apply pw_below_drewN | apply below_drew1 | refine below_set ?_ GE128.out | refine below_set ?_ GE138.out) | exact HB.out)⟩⟩
                        · rw [if_neg c33] at H
                          have c33b0 : (x9_1 == 1) = false := beq_eq_false_iff_ne.mpr c33
                          have c33b1 : (x9_1 != 1) = true := bne_iff_ne.mpr c33
                          (first | rw [c33b0] | (simp only [i64_w, i32_w]; rw [c33b0]) | skip)
                          have H' := Aside0.mk H
                          clear H
                          go_wp2
                          repeat (go_quiet (fail); try go_wp2)
                          go_meet
                          case rel => exact ⟨_, (false), (by first | rfl | (simp; done) | (simp [*]; done)), H', ⟨by have := HK1.out; have := HJ15.out; have := HJ22.out; first | omega | exact Nat.le_refl _⟩, ⟨by (with_reducible repeat (first | apply Kd.R_alloc | apply Kd.R_drewN | apply Kd.R_drew)); exact HO_139005.out⟩, ⟨by (with_reducible repeat (first | refine blk_drewN ?_ _ | refine blk_drew ?_ | refine blk_alloc ?_ _)); exact BK128.out⟩, ⟨by (with_reducible repeat (first | refine blk_drewN ?_ _ | refine blk_drew ?_ | refine blk_alloc ?_ _)); exact BK138.out⟩, ⟨by repeat (first | (with_reducible first | exact HB.out | apply below_alloc | apply pw_below_drewN | apply below_drew1 | refine below_set ?_ GE128.out | refine below_set ?_ GE138.out) | exact HB.out)⟩⟩
                      case rest =>
                        clear HC28
                        try clear c1
                        try clear p1
                        try clear q1
                        try clear hx1
                        try clear c2
                        try clear p2
                        try clear c3
                        try clear c5
                        try clear p6
                        try clear c8
                        try clear c13
                        try clear p14
                        try clear q14
                        try clear hx14
                        try clear c17
                        try clear c17b0
                        try clear c18
                        try clear c19
                        try clear c19b0
                        try clear c20
                        try clear c20b0
                        try clear c24
                        try clear c26
                        try clear c26b0
                        try clear c29
                        try clear c33
                        try clear c33b0
                        try clear c33b1
                        try clear hcz10_0
                        try clear hcz10_1
                        try clear hcz10_2
                        try clear hcz10_3
                        try clear hcz10_4
                        try clear hcz10_5
                        try clear hcz14_0
                        try clear hcz14_1
                        try clear hcz14_2
                        try clear hcz14_3
                        try clear hcz14_4
                        try clear hcz14_5
                        try clear hcz25_0
                        try clear hcz25_1
                        try clear hcz25_2
                        try clear hcz25_3
                        try clear hcz25_4
                        try clear hcz25_5
                        try clear hcz30_0
                        try clear hcz30_1
                        try clear hcz30_2
                        try clear hcz30_3
                        try clear hcz30_4
                        try clear hcz30_5
                        try clear hcz32_0
                        try clear hcz32_1
                        try clear hcz32_2
                        try clear hcz32_3
                        try clear hcz32_4
                        try clear hcz32_5
                        try clear hfz10_0
                        try clear hfz10_1
                        try clear hfz10_2
                        try clear hfz10_3
                        try clear hfz10_4
                        try clear hfz10_5
                        try clear hfz14_0
                        try clear hfz14_1
                        try clear hfz14_2
                        try clear hfz14_3
                        try clear hfz14_4
                        try clear hfz14_5
                        try clear hfz25_0
                        try clear hfz25_1
                        try clear hfz25_2
                        try clear hfz25_3
                        try clear hfz25_4
                        try clear hfz25_5
                        try clear hfz30_0
                        try clear hfz30_1
                        try clear hfz30_2
                        try clear hfz30_3
                        try clear hfz30_4
                        try clear hfz30_5
                        try clear hfz32_0
                        try clear hfz32_1
                        try clear hfz32_2
                        try clear hfz32_3
                        try clear hfz32_4
                        try clear hfz32_5
                        try clear hx140_0
                        try clear hx142_0
                        try clear p1
                        try clear p14
                        try clear p140
                        try clear p142
                        try clear p2
                        try clear p6
                        try clear q1
                        try clear q14
                        try clear q140
                        try clear q142
                        obtain ⟨kq, x69_27, rfl, HA, HJ27, HO_139005, BK128, BK138, HB⟩ := hcut
                        cases kq with
                        | zero => exact absurd HA.out (by simp [plaitinglaw13_StateWalks.j3])
                        | succ kj27 =>
                          have H := HA.out
                          clear HA
                          simp only [plaitinglaw13_StateWalks.j3] at H
                          by_cases c34 : x69_27 = true
                          · subst c34
                            have H1 : (if t144 < 1 then (some false) else (if t144 > 4 then (some false) else (if t144 = 4 then (if (decide ((wrap64 (2 * (wrap64 (x14_22 + 1)))) > t130)) = true then (if t144 = 2 then (if x9_1 = 1 then (if (wrap64 (x11_1 + 1)) = (wrap64 (t130 + t139)) then (if t145 < 0 then (some false) else (if t145 ≥ (wrap64 (t130 + t139)) then (if t144 = 1 then (some false) else (plaitinglaw13_StateWalks.l0 kj27 l2 t139 t144 t145 (wrap64 (x11_1 + 1)) (wrap64 (x13_1 + 1)) t130 t131 t132 t133 t134 t135)) else (plaitinglaw13_StateWalks.l0 kj27 l2 t139 t144 t145 (wrap64 (x11_1 + 1)) (wrap64 (x13_1 + 1)) t130 t131 t132 t133 t134 t135))) else (some false)) else (some false)) else (if t145 < 0 then (some false) else (if t145 ≥ (wrap64 (t130 + t139)) then (if t144 = 1 then (some false) else (plaitinglaw13_StateWalks.l0 kj27 l2 t139 t144 t145 (wrap64 (x11_1 + 1)) (wrap64 (x13_1 + 1)) t130 t131 t132 t133 t134 t135)) else (plaitinglaw13_StateWalks.l0 kj27 l2 t139 t144 t145 (wrap64 (x11_1 + 1)) (wrap64 (x13_1 + 1)) t130 t131 t132 t133 t134 t135)))) else (some false)) else (if t144 = 2 then (if x9_1 = 1 then (if (wrap64 (x11_1 + 1)) = (wrap64 (t130 + t139)) then (if t145 < 0 then (some false) else (if t145 ≥ (wrap64 (t130 + t139)) then (if t144 = 1 then (some false) else (plaitinglaw13_StateWalks.l0 kj27 l2 t139 t144 t145 (wrap64 (x11_1 + 1)) (wrap64 (x13_1 + 1)) t130 t131 t132 t133 t134 t135)) else (plaitinglaw13_StateWalks.l0 kj27 l2 t139 t144 t145 (wrap64 (x11_1 + 1)) (wrap64 (x13_1 + 1)) t130 t131 t132 t133 t134 t135))) else (some false)) else (some false)) else (if t145 < 0 then (some false) else (if t145 ≥ (wrap64 (t130 + t139)) then (if t144 = 1 then (some false) else (plaitinglaw13_StateWalks.l0 kj27 l2 t139 t144 t145 (wrap64 (x11_1 + 1)) (wrap64 (x13_1 + 1)) t130 t131 t132 t133 t134 t135)) else (plaitinglaw13_StateWalks.l0 kj27 l2 t139 t144 t145 (wrap64 (x11_1 + 1)) (wrap64 (x13_1 + 1)) t130 t131 t132 t133 t134 t135))))))) = some r := by rw [if_pos rfl] at H; exact H
                            clear H
                            have H := H1
                            clear H1
                            by_cases c35 : t144 < 1
                            · rw [if_pos c35] at H
                              have c35b0 : decide (t144 < 1) = true := decide_eq_true c35
                              clear c35
                              exact Bool.noConfusion ((Option.some.inj H).trans HR_.out)
                            · rw [if_neg c35] at H
                              have c35b0 : decide (t144 < 1) = false := decide_eq_false c35
                              clear c35
                              by_cases c36 : t144 > 4
                              · rw [if_pos c36] at H
                                have c36b0 : decide (4 < t144) = true := decide_eq_true c36
                                clear c36
                                exact Bool.noConfusion ((Option.some.inj H).trans HR_.out)
                              · rw [if_neg c36] at H
                                have c36b0 : decide (4 < t144) = false := decide_eq_false c36
                                clear c36
                                by_cases c37 : t144 = 4
                                · rw [if_pos c37] at H
                                  have c37b0 : (t144 == 4) = true := beq_iff_eq.mpr c37
                                  have c37b1 : (t144 != 4) = false := bne_eq_false_iff_eq.mpr c37
                                  clear c37
                                  by_cases c38 : (decide ((wrap64 (2 * (wrap64 (x14_22 + 1)))) > t130)) = true
                                  · rw [if_pos c38] at H
                                    have c38b0 : (decide ((wrap64 (2 * (wrap64 (x14_22 + 1)))) > t130)) = true := c38
                                    clear c38
                                    by_cases c39 : t144 = 2
                                    · rw [if_pos c39] at H
                                      have c39b0 : (t144 == 2) = true := beq_iff_eq.mpr c39
                                      have c39b1 : (t144 != 2) = false := bne_eq_false_iff_eq.mpr c39
                                      clear c39
                                      by_cases c40 : x9_1 = 1
                                      · rw [if_pos c40] at H
                                        have c40b0 : (x9_1 == 1) = true := beq_iff_eq.mpr c40
                                        have c40b1 : (x9_1 != 1) = false := bne_eq_false_iff_eq.mpr c40
                                        clear c40
                                        by_cases c41 : (wrap64 (x11_1 + 1)) = (wrap64 (t130 + t139))
                                        · rw [if_pos c41] at H
                                          have c41b0 : ((wrap64 (x11_1 + 1)) == (wrap64 (t130 + t139))) = true := beq_iff_eq.mpr c41
                                          have c41b1 : ((wrap64 (x11_1 + 1)) != (wrap64 (t130 + t139))) = false := bne_eq_false_iff_eq.mpr c41
                                          clear c41
                                          by_cases c42 : t145 < 0
                                          · rw [if_pos c42] at H
                                            have c42b0 : decide (t145 < 0) = true := decide_eq_true c42
                                            clear c42
                                            exact Bool.noConfusion ((Option.some.inj H).trans HR_.out)
                                          · rw [if_neg c42] at H
                                            have c42b0 : decide (t145 < 0) = false := decide_eq_false c42
                                            clear c42
                                            by_cases c45 : t145 ≥ (wrap64 (t130 + t139))
                                            · rw [if_pos c45] at H
                                              have c45b0 : decide ((wrap64 (t130 + t139)) ≤ t145) = true := decide_eq_true c45
                                              clear c45
                                              by_cases c46 : t144 = 1
                                              · rw [if_pos c46] at H
                                                have c46b0 : (t144 == 1) = true := beq_iff_eq.mpr c46
                                                have c46b1 : (t144 != 1) = false := bne_eq_false_iff_eq.mpr c46
                                                clear c46
                                                exact Bool.noConfusion ((Option.some.inj H).trans HR_.out)
                                              · rw [if_neg c46] at H
                                                have c46b0 : (t144 == 1) = false := beq_eq_false_iff_ne.mpr c46
                                                have c46b1 : (t144 != 1) = true := bne_iff_ne.mpr c46
                                                have H' := Aside0.mk H
                                                clear H
                                                have hnb49 := NB138_128.out
                                                have hnc49 := NB128_138.out
                                                have hcz50_0 : wc.cell? ⟨gb138, 0, none⟩ = some (.int .i64 t130) := (blk_cell BK138.out 0).trans rfl
                                                have hcz50_1 : wc.cell? ⟨gb138, 1, none⟩ = some (.int .i64 t131) := (blk_cell BK138.out 1).trans rfl
                                                have hcz50_2 : wc.cell? ⟨gb138, 2, none⟩ = some (.int .i64 t132) := (blk_cell BK138.out 2).trans rfl
                                                have hcz50_3 : wc.cell? ⟨gb138, 3, none⟩ = some (.int .i64 t133) := (blk_cell BK138.out 3).trans rfl
                                                have hcz50_4 : wc.cell? ⟨gb138, 4, none⟩ = some (.int .i64 t134) := (blk_cell BK138.out 4).trans rfl
                                                have hcz50_5 : wc.cell? ⟨gb138, 5, none⟩ = some (.slice Ao15 t135.length co15) := (blk_cell BK138.out 5).trans rfl
                                                have hfz50_0 := blk_frozen BK138.out 0
                                                have hfz50_1 := blk_frozen BK138.out 1
                                                have hfz50_2 := blk_frozen BK138.out 2
                                                have hfz50_3 := blk_frozen BK138.out 3
                                                have hfz50_4 := blk_frozen BK138.out 4
                                                have hfz50_5 := blk_frozen BK138.out 5
                                                go_wp2
                                                repeat (go_quiet (fail); try go_wp2)
                                                go_roundg kj27
                                                case measure => have := HK1.out; have := HJ15.out; have := HJ22.out; have := HJ27.out; omega
                                                case rel => exact ⟨(t144), (t145), (wrap64 (x11_1 + 1)), (wrap64 (x13_1 + 1)), (by first | rfl | (simp; done) | (simp [*]; done)), (by first | rfl | (simp; done) | (simp [*]; done)), (by first | rfl | (simp; done) | (simp [*]; done)), (by first | rfl | (simp; done) | (simp [*]; done)), H', ⟨by have := HK1.out; have := HJ15.out; have := HJ22.out; have := HJ27.out; omega⟩, ⟨by (with_reducible repeat (first | apply Kd.R_alloc | apply Kd.R_drewN | apply Kd.R_drew)); exact HO_139005.out⟩, ⟨by (with_reducible repeat (first | refine blk_drewN ?_ _ | refine blk_drew ?_ | refine blk_alloc ?_ _)); exact BK128.out⟩, ⟨by (with_reducible repeat (first | refine blk_drewN ?_ _ | refine blk_drew ?_ | refine blk_alloc ?_ _)); exact BK138.out⟩, ⟨by repeat (first | (with_reducible first | exact HB.out | apply below_alloc | apply pw_below_drewN | apply below_drew1 | refine below_set ?_ GE128.out | refine below_set ?_ GE138.out) | exact HB.out)⟩⟩
                                            · rw [if_neg c45] at H
                                              have c45b0 : decide ((wrap64 (t130 + t139)) ≤ t145) = false := decide_eq_false c45
                                              clear c45
                                              have H' := Aside0.mk H
                                              clear H
                                              have hnb51 := NB138_128.out
                                              have hnc51 := NB128_138.out
                                              have hcz52_0 : wc.cell? ⟨gb138, 0, none⟩ = some (.int .i64 t130) := (blk_cell BK138.out 0).trans rfl
                                              have hcz52_1 : wc.cell? ⟨gb138, 1, none⟩ = some (.int .i64 t131) := (blk_cell BK138.out 1).trans rfl
                                              have hcz52_2 : wc.cell? ⟨gb138, 2, none⟩ = some (.int .i64 t132) := (blk_cell BK138.out 2).trans rfl
                                              have hcz52_3 : wc.cell? ⟨gb138, 3, none⟩ = some (.int .i64 t133) := (blk_cell BK138.out 3).trans rfl
                                              have hcz52_4 : wc.cell? ⟨gb138, 4, none⟩ = some (.int .i64 t134) := (blk_cell BK138.out 4).trans rfl
                                              have hcz52_5 : wc.cell? ⟨gb138, 5, none⟩ = some (.slice Ao15 t135.length co15) := (blk_cell BK138.out 5).trans rfl
                                              have hfz52_0 := blk_frozen BK138.out 0
                                              have hfz52_1 := blk_frozen BK138.out 1
                                              have hfz52_2 := blk_frozen BK138.out 2
                                              have hfz52_3 := blk_frozen BK138.out 3
                                              have hfz52_4 := blk_frozen BK138.out 4
                                              have hfz52_5 := blk_frozen BK138.out 5
                                              go_wp2
                                              repeat (go_quiet (fail); try go_wp2)
                                              go_roundg kj27
                                              case measure => have := HK1.out; have := HJ15.out; have := HJ22.out; have := HJ27.out; omega
                                              case rel => exact ⟨(t144), (t145), (wrap64 (x11_1 + 1)), (wrap64 (x13_1 + 1)), (by first | rfl | (simp; done) | (simp [*]; done)), (by first | rfl | (simp; done) | (simp [*]; done)), (by first | rfl | (simp; done) | (simp [*]; done)), (by first | rfl | (simp; done) | (simp [*]; done)), H', ⟨by have := HK1.out; have := HJ15.out; have := HJ22.out; have := HJ27.out; omega⟩, ⟨by (with_reducible repeat (first | apply Kd.R_alloc | apply Kd.R_drewN | apply Kd.R_drew)); exact HO_139005.out⟩, ⟨by (with_reducible repeat (first | refine blk_drewN ?_ _ | refine blk_drew ?_ | refine blk_alloc ?_ _)); exact BK128.out⟩, ⟨by (with_reducible repeat (first | refine blk_drewN ?_ _ | refine blk_drew ?_ | refine blk_alloc ?_ _)); exact BK138.out⟩, ⟨by repeat (first | (with_reducible first | exact HB.out | apply below_alloc | apply pw_below_drewN | apply below_drew1 | refine below_set ?_ GE128.out | refine below_set ?_ GE138.out) | exact HB.out)⟩⟩
                                        · rw [if_neg c41] at H
                                          have c41b0 : ((wrap64 (x11_1 + 1)) == (wrap64 (t130 + t139))) = false := beq_eq_false_iff_ne.mpr c41
                                          have c41b1 : ((wrap64 (x11_1 + 1)) != (wrap64 (t130 + t139))) = true := bne_iff_ne.mpr c41
                                          exact Bool.noConfusion ((Option.some.inj H).trans HR_.out)
                                      · rw [if_neg c40] at H
                                        have c40b0 : (x9_1 == 1) = false := beq_eq_false_iff_ne.mpr c40
                                        have c40b1 : (x9_1 != 1) = true := bne_iff_ne.mpr c40
                                        exact Bool.noConfusion ((Option.some.inj H).trans HR_.out)
                                    · rw [if_neg c39] at H
                                      have c39b0 : (t144 == 2) = false := beq_eq_false_iff_ne.mpr c39
                                      have c39b1 : (t144 != 2) = true := bne_iff_ne.mpr c39
                                      by_cases c55 : t145 < 0
                                      · rw [if_pos c55] at H
                                        have c55b0 : decide (t145 < 0) = true := decide_eq_true c55
                                        clear c55
                                        exact Bool.noConfusion ((Option.some.inj H).trans HR_.out)
                                      · rw [if_neg c55] at H
                                        have c55b0 : decide (t145 < 0) = false := decide_eq_false c55
                                        clear c55
                                        by_cases c56 : t145 ≥ (wrap64 (t130 + t139))
                                        · rw [if_pos c56] at H
                                          have c56b0 : decide ((wrap64 (t130 + t139)) ≤ t145) = true := decide_eq_true c56
                                          clear c56
                                          by_cases c57 : t144 = 1
                                          · rw [if_pos c57] at H
                                            have c57b0 : (t144 == 1) = true := beq_iff_eq.mpr c57
                                            have c57b1 : (t144 != 1) = false := bne_eq_false_iff_eq.mpr c57
                                            clear c57
                                            exact Bool.noConfusion ((Option.some.inj H).trans HR_.out)
                                          · rw [if_neg c57] at H
                                            have c57b0 : (t144 == 1) = false := beq_eq_false_iff_ne.mpr c57
                                            have c57b1 : (t144 != 1) = true := bne_iff_ne.mpr c57
                                            have H' := Aside0.mk H
                                            clear H
                                            have hnb60 := NB138_128.out
                                            have hnc60 := NB128_138.out
                                            have hcz61_0 : wc.cell? ⟨gb138, 0, none⟩ = some (.int .i64 t130) := (blk_cell BK138.out 0).trans rfl
                                            have hcz61_1 : wc.cell? ⟨gb138, 1, none⟩ = some (.int .i64 t131) := (blk_cell BK138.out 1).trans rfl
                                            have hcz61_2 : wc.cell? ⟨gb138, 2, none⟩ = some (.int .i64 t132) := (blk_cell BK138.out 2).trans rfl
                                            have hcz61_3 : wc.cell? ⟨gb138, 3, none⟩ = some (.int .i64 t133) := (blk_cell BK138.out 3).trans rfl
                                            have hcz61_4 : wc.cell? ⟨gb138, 4, none⟩ = some (.int .i64 t134) := (blk_cell BK138.out 4).trans rfl
                                            have hcz61_5 : wc.cell? ⟨gb138, 5, none⟩ = some (.slice Ao15 t135.length co15) := (blk_cell BK138.out 5).trans rfl
                                            have hfz61_0 := blk_frozen BK138.out 0
                                            have hfz61_1 := blk_frozen BK138.out 1
                                            have hfz61_2 := blk_frozen BK138.out 2
                                            have hfz61_3 := blk_frozen BK138.out 3
                                            have hfz61_4 := blk_frozen BK138.out 4
                                            have hfz61_5 := blk_frozen BK138.out 5
                                            go_wp2
                                            repeat (go_quiet (fail); try go_wp2)
                                            go_roundg kj27
                                            case measure => have := HK1.out; have := HJ15.out; have := HJ22.out; have := HJ27.out; omega
                                            case rel => exact ⟨(t144), (t145), (wrap64 (x11_1 + 1)), (wrap64 (x13_1 + 1)), (by first | rfl | (simp; done) | (simp [*]; done)), (by first | rfl | (simp; done) | (simp [*]; done)), (by first | rfl | (simp; done) | (simp [*]; done)), (by first | rfl | (simp; done) | (simp [*]; done)), H', ⟨by have := HK1.out; have := HJ15.out; have := HJ22.out; have := HJ27.out; omega⟩, ⟨by (with_reducible repeat (first | apply Kd.R_alloc | apply Kd.R_drewN | apply Kd.R_drew)); exact HO_139005.out⟩, ⟨by (with_reducible repeat (first | refine blk_drewN ?_ _ | refine blk_drew ?_ | refine blk_alloc ?_ _)); exact BK128.out⟩, ⟨by (with_reducible repeat (first | refine blk_drewN ?_ _ | refine blk_drew ?_ | refine blk_alloc ?_ _)); exact BK138.out⟩, ⟨by repeat (first | (with_reducible first | exact HB.out | apply below_alloc | apply pw_below_drewN | apply below_drew1 | refine below_set ?_ GE128.out | refine below_set ?_ GE138.out) | exact HB.out)⟩⟩
                                        · rw [if_neg c56] at H
                                          have c56b0 : decide ((wrap64 (t130 + t139)) ≤ t145) = false := decide_eq_false c56
                                          clear c56
                                          have H' := Aside0.mk H
                                          clear H
                                          have hnb62 := NB138_128.out
                                          have hnc62 := NB128_138.out
                                          have hcz63_0 : wc.cell? ⟨gb138, 0, none⟩ = some (.int .i64 t130) := (blk_cell BK138.out 0).trans rfl
                                          have hcz63_1 : wc.cell? ⟨gb138, 1, none⟩ = some (.int .i64 t131) := (blk_cell BK138.out 1).trans rfl
                                          have hcz63_2 : wc.cell? ⟨gb138, 2, none⟩ = some (.int .i64 t132) := (blk_cell BK138.out 2).trans rfl
                                          have hcz63_3 : wc.cell? ⟨gb138, 3, none⟩ = some (.int .i64 t133) := (blk_cell BK138.out 3).trans rfl
                                          have hcz63_4 : wc.cell? ⟨gb138, 4, none⟩ = some (.int .i64 t134) := (blk_cell BK138.out 4).trans rfl
                                          have hcz63_5 : wc.cell? ⟨gb138, 5, none⟩ = some (.slice Ao15 t135.length co15) := (blk_cell BK138.out 5).trans rfl
                                          have hfz63_0 := blk_frozen BK138.out 0
                                          have hfz63_1 := blk_frozen BK138.out 1
                                          have hfz63_2 := blk_frozen BK138.out 2
                                          have hfz63_3 := blk_frozen BK138.out 3
                                          have hfz63_4 := blk_frozen BK138.out 4
                                          have hfz63_5 := blk_frozen BK138.out 5
                                          go_wp2
                                          repeat (go_quiet (fail); try go_wp2)
                                          go_roundg kj27
                                          case measure => have := HK1.out; have := HJ15.out; have := HJ22.out; have := HJ27.out; omega
                                          case rel => exact ⟨(t144), (t145), (wrap64 (x11_1 + 1)), (wrap64 (x13_1 + 1)), (by first | rfl | (simp; done) | (simp [*]; done)), (by first | rfl | (simp; done) | (simp [*]; done)), (by first | rfl | (simp; done) | (simp [*]; done)), (by first | rfl | (simp; done) | (simp [*]; done)), H', ⟨by have := HK1.out; have := HJ15.out; have := HJ22.out; have := HJ27.out; omega⟩, ⟨by (with_reducible repeat (first | apply Kd.R_alloc | apply Kd.R_drewN | apply Kd.R_drew)); exact HO_139005.out⟩, ⟨by (with_reducible repeat (first | refine blk_drewN ?_ _ | refine blk_drew ?_ | refine blk_alloc ?_ _)); exact BK128.out⟩, ⟨by (with_reducible repeat (first | refine blk_drewN ?_ _ | refine blk_drew ?_ | refine blk_alloc ?_ _)); exact BK138.out⟩, ⟨by repeat (first | (with_reducible first | exact HB.out | apply below_alloc | apply pw_below_drewN | apply below_drew1 | refine below_set ?_ GE128.out | refine below_set ?_ GE138.out) | exact HB.out)⟩⟩
                                  · rw [if_neg c38] at H
                                    have c38b0 : (decide ((wrap64 (2 * (wrap64 (x14_22 + 1)))) > t130)) = false := by simpa using c38
                                    clear c38
                                    exact Bool.noConfusion ((Option.some.inj H).trans HR_.out)
                                · rw [if_neg c37] at H
                                  have c37b0 : (t144 == 4) = false := beq_eq_false_iff_ne.mpr c37
                                  have c37b1 : (t144 != 4) = true := bne_iff_ne.mpr c37
                                  by_cases c64 : t144 = 2
                                  · rw [if_pos c64] at H
                                    have c64b0 : (t144 == 2) = true := beq_iff_eq.mpr c64
                                    have c64b1 : (t144 != 2) = false := bne_eq_false_iff_eq.mpr c64
                                    clear c64
                                    by_cases c65 : x9_1 = 1
                                    · rw [if_pos c65] at H
                                      have c65b0 : (x9_1 == 1) = true := beq_iff_eq.mpr c65
                                      have c65b1 : (x9_1 != 1) = false := bne_eq_false_iff_eq.mpr c65
                                      clear c65
                                      by_cases c66 : (wrap64 (x11_1 + 1)) = (wrap64 (t130 + t139))
                                      · rw [if_pos c66] at H
                                        have c66b0 : ((wrap64 (x11_1 + 1)) == (wrap64 (t130 + t139))) = true := beq_iff_eq.mpr c66
                                        have c66b1 : ((wrap64 (x11_1 + 1)) != (wrap64 (t130 + t139))) = false := bne_eq_false_iff_eq.mpr c66
                                        clear c66
                                        by_cases c67 : t145 < 0
                                        · rw [if_pos c67] at H
                                          have c67b0 : decide (t145 < 0) = true := decide_eq_true c67
                                          clear c67
                                          exact Bool.noConfusion ((Option.some.inj H).trans HR_.out)
                                        · rw [if_neg c67] at H
                                          have c67b0 : decide (t145 < 0) = false := decide_eq_false c67
                                          clear c67
                                          by_cases c70 : t145 ≥ (wrap64 (t130 + t139))
                                          · rw [if_pos c70] at H
                                            have c70b0 : decide ((wrap64 (t130 + t139)) ≤ t145) = true := decide_eq_true c70
                                            clear c70
                                            by_cases c71 : t144 = 1
                                            · rw [if_pos c71] at H
                                              have c71b0 : (t144 == 1) = true := beq_iff_eq.mpr c71
                                              have c71b1 : (t144 != 1) = false := bne_eq_false_iff_eq.mpr c71
                                              clear c71
                                              exact Bool.noConfusion ((Option.some.inj H).trans HR_.out)
                                            · rw [if_neg c71] at H
                                              have c71b0 : (t144 == 1) = false := beq_eq_false_iff_ne.mpr c71
                                              have c71b1 : (t144 != 1) = true := bne_iff_ne.mpr c71
                                              have H' := Aside0.mk H
                                              clear H
                                              have hnb74 := NB138_128.out
                                              have hnc74 := NB128_138.out
                                              have hcz75_0 : wc.cell? ⟨gb138, 0, none⟩ = some (.int .i64 t130) := (blk_cell BK138.out 0).trans rfl
                                              have hcz75_1 : wc.cell? ⟨gb138, 1, none⟩ = some (.int .i64 t131) := (blk_cell BK138.out 1).trans rfl
                                              have hcz75_2 : wc.cell? ⟨gb138, 2, none⟩ = some (.int .i64 t132) := (blk_cell BK138.out 2).trans rfl
                                              have hcz75_3 : wc.cell? ⟨gb138, 3, none⟩ = some (.int .i64 t133) := (blk_cell BK138.out 3).trans rfl
                                              have hcz75_4 : wc.cell? ⟨gb138, 4, none⟩ = some (.int .i64 t134) := (blk_cell BK138.out 4).trans rfl
                                              have hcz75_5 : wc.cell? ⟨gb138, 5, none⟩ = some (.slice Ao15 t135.length co15) := (blk_cell BK138.out 5).trans rfl
                                              have hfz75_0 := blk_frozen BK138.out 0
                                              have hfz75_1 := blk_frozen BK138.out 1
                                              have hfz75_2 := blk_frozen BK138.out 2
                                              have hfz75_3 := blk_frozen BK138.out 3
                                              have hfz75_4 := blk_frozen BK138.out 4
                                              have hfz75_5 := blk_frozen BK138.out 5
                                              go_wp2
                                              repeat (go_quiet (fail); try go_wp2)
                                              go_roundg kj27
                                              case measure => have := HK1.out; have := HJ15.out; have := HJ22.out; have := HJ27.out; omega
                                              case rel => exact ⟨(t144), (t145), (wrap64 (x11_1 + 1)), (wrap64 (x13_1 + 1)), (by first | rfl | (simp; done) | (simp [*]; done)), (by first | rfl | (simp; done) | (simp [*]; done)), (by first | rfl | (simp; done) | (simp [*]; done)), (by first | rfl | (simp; done) | (simp [*]; done)), H', ⟨by have := HK1.out; have := HJ15.out; have := HJ22.out; have := HJ27.out; omega⟩, ⟨by (with_reducible repeat (first | apply Kd.R_alloc | apply Kd.R_drewN | apply Kd.R_drew)); exact HO_139005.out⟩, ⟨by (with_reducible repeat (first | refine blk_drewN ?_ _ | refine blk_drew ?_ | refine blk_alloc ?_ _)); exact BK128.out⟩, ⟨by (with_reducible repeat (first | refine blk_drewN ?_ _ | refine blk_drew ?_ | refine blk_alloc ?_ _)); exact BK138.out⟩, ⟨by repeat (first | (with_reducible first | exact HB.out | apply below_alloc | apply pw_below_drewN | apply below_drew1 | refine below_set ?_ GE128.out | refine below_set ?_ GE138.out) | exact HB.out)⟩⟩
                                          · rw [if_neg c70] at H
                                            have c70b0 : decide ((wrap64 (t130 + t139)) ≤ t145) = false := decide_eq_false c70
                                            clear c70
                                            have H' := Aside0.mk H
                                            clear H
                                            have hnb76 := NB138_128.out
                                            have hnc76 := NB128_138.out
                                            have hcz77_0 : wc.cell? ⟨gb138, 0, none⟩ = some (.int .i64 t130) := (blk_cell BK138.out 0).trans rfl
                                            have hcz77_1 : wc.cell? ⟨gb138, 1, none⟩ = some (.int .i64 t131) := (blk_cell BK138.out 1).trans rfl
                                            have hcz77_2 : wc.cell? ⟨gb138, 2, none⟩ = some (.int .i64 t132) := (blk_cell BK138.out 2).trans rfl
                                            have hcz77_3 : wc.cell? ⟨gb138, 3, none⟩ = some (.int .i64 t133) := (blk_cell BK138.out 3).trans rfl
                                            have hcz77_4 : wc.cell? ⟨gb138, 4, none⟩ = some (.int .i64 t134) := (blk_cell BK138.out 4).trans rfl
                                            have hcz77_5 : wc.cell? ⟨gb138, 5, none⟩ = some (.slice Ao15 t135.length co15) := (blk_cell BK138.out 5).trans rfl
                                            have hfz77_0 := blk_frozen BK138.out 0
                                            have hfz77_1 := blk_frozen BK138.out 1
                                            have hfz77_2 := blk_frozen BK138.out 2
                                            have hfz77_3 := blk_frozen BK138.out 3
                                            have hfz77_4 := blk_frozen BK138.out 4
                                            have hfz77_5 := blk_frozen BK138.out 5
                                            go_wp2
                                            repeat (go_quiet (fail); try go_wp2)
                                            go_roundg kj27
                                            case measure => have := HK1.out; have := HJ15.out; have := HJ22.out; have := HJ27.out; omega
                                            case rel => exact ⟨(t144), (t145), (wrap64 (x11_1 + 1)), (wrap64 (x13_1 + 1)), (by first | rfl | (simp; done) | (simp [*]; done)), (by first | rfl | (simp; done) | (simp [*]; done)), (by first | rfl | (simp; done) | (simp [*]; done)), (by first | rfl | (simp; done) | (simp [*]; done)), H', ⟨by have := HK1.out; have := HJ15.out; have := HJ22.out; have := HJ27.out; omega⟩, ⟨by (with_reducible repeat (first | apply Kd.R_alloc | apply Kd.R_drewN | apply Kd.R_drew)); exact HO_139005.out⟩, ⟨by (with_reducible repeat (first | refine blk_drewN ?_ _ | refine blk_drew ?_ | refine blk_alloc ?_ _)); exact BK128.out⟩, ⟨by (with_reducible repeat (first | refine blk_drewN ?_ _ | refine blk_drew ?_ | refine blk_alloc ?_ _)); exact BK138.out⟩, ⟨by repeat (first | (with_reducible first | exact HB.out | apply below_alloc | apply pw_below_drewN | apply below_drew1 | refine below_set ?_ GE128.out | refine below_set ?_ GE138.out) | exact HB.out)⟩⟩
                                      · rw [if_neg c66] at H
                                        have c66b0 : ((wrap64 (x11_1 + 1)) == (wrap64 (t130 + t139))) = false := beq_eq_false_iff_ne.mpr c66
                                        have c66b1 : ((wrap64 (x11_1 + 1)) != (wrap64 (t130 + t139))) = true := bne_iff_ne.mpr c66
                                        exact Bool.noConfusion ((Option.some.inj H).trans HR_.out)
                                    · rw [if_neg c65] at H
                                      have c65b0 : (x9_1 == 1) = false := beq_eq_false_iff_ne.mpr c65
                                      have c65b1 : (x9_1 != 1) = true := bne_iff_ne.mpr c65
                                      exact Bool.noConfusion ((Option.some.inj H).trans HR_.out)
                                  · rw [if_neg c64] at H
                                    have c64b0 : (t144 == 2) = false := beq_eq_false_iff_ne.mpr c64
                                    have c64b1 : (t144 != 2) = true := bne_iff_ne.mpr c64
                                    by_cases c80 : t145 < 0
                                    · rw [if_pos c80] at H
                                      have c80b0 : decide (t145 < 0) = true := decide_eq_true c80
                                      clear c80
                                      exact Bool.noConfusion ((Option.some.inj H).trans HR_.out)
                                    · rw [if_neg c80] at H
                                      have c80b0 : decide (t145 < 0) = false := decide_eq_false c80
                                      clear c80
                                      by_cases c81 : t145 ≥ (wrap64 (t130 + t139))
                                      · rw [if_pos c81] at H
                                        have c81b0 : decide ((wrap64 (t130 + t139)) ≤ t145) = true := decide_eq_true c81
                                        clear c81
                                        by_cases c82 : t144 = 1
                                        · rw [if_pos c82] at H
                                          have c82b0 : (t144 == 1) = true := beq_iff_eq.mpr c82
                                          have c82b1 : (t144 != 1) = false := bne_eq_false_iff_eq.mpr c82
                                          clear c82
                                          exact Bool.noConfusion ((Option.some.inj H).trans HR_.out)
                                        · rw [if_neg c82] at H
                                          have c82b0 : (t144 == 1) = false := beq_eq_false_iff_ne.mpr c82
                                          have c82b1 : (t144 != 1) = true := bne_iff_ne.mpr c82
                                          have H' := Aside0.mk H
                                          clear H
                                          have hnb85 := NB138_128.out
                                          have hnc85 := NB128_138.out
                                          have hcz86_0 : wc.cell? ⟨gb138, 0, none⟩ = some (.int .i64 t130) := (blk_cell BK138.out 0).trans rfl
                                          have hcz86_1 : wc.cell? ⟨gb138, 1, none⟩ = some (.int .i64 t131) := (blk_cell BK138.out 1).trans rfl
                                          have hcz86_2 : wc.cell? ⟨gb138, 2, none⟩ = some (.int .i64 t132) := (blk_cell BK138.out 2).trans rfl
                                          have hcz86_3 : wc.cell? ⟨gb138, 3, none⟩ = some (.int .i64 t133) := (blk_cell BK138.out 3).trans rfl
                                          have hcz86_4 : wc.cell? ⟨gb138, 4, none⟩ = some (.int .i64 t134) := (blk_cell BK138.out 4).trans rfl
                                          have hcz86_5 : wc.cell? ⟨gb138, 5, none⟩ = some (.slice Ao15 t135.length co15) := (blk_cell BK138.out 5).trans rfl
                                          have hfz86_0 := blk_frozen BK138.out 0
                                          have hfz86_1 := blk_frozen BK138.out 1
                                          have hfz86_2 := blk_frozen BK138.out 2
                                          have hfz86_3 := blk_frozen BK138.out 3
                                          have hfz86_4 := blk_frozen BK138.out 4
                                          have hfz86_5 := blk_frozen BK138.out 5
                                          go_wp2
                                          repeat (go_quiet (fail); try go_wp2)
                                          go_roundg kj27
                                          case measure => have := HK1.out; have := HJ15.out; have := HJ22.out; have := HJ27.out; omega
                                          case rel => exact ⟨(t144), (t145), (wrap64 (x11_1 + 1)), (wrap64 (x13_1 + 1)), (by first | rfl | (simp; done) | (simp [*]; done)), (by first | rfl | (simp; done) | (simp [*]; done)), (by first | rfl | (simp; done) | (simp [*]; done)), (by first | rfl | (simp; done) | (simp [*]; done)), H', ⟨by have := HK1.out; have := HJ15.out; have := HJ22.out; have := HJ27.out; omega⟩, ⟨by (with_reducible repeat (first | apply Kd.R_alloc | apply Kd.R_drewN | apply Kd.R_drew)); exact HO_139005.out⟩, ⟨by (with_reducible repeat (first | refine blk_drewN ?_ _ | refine blk_drew ?_ | refine blk_alloc ?_ _)); exact BK128.out⟩, ⟨by (with_reducible repeat (first | refine blk_drewN ?_ _ | refine blk_drew ?_ | refine blk_alloc ?_ _)); exact BK138.out⟩, ⟨by repeat (first | (with_reducible first | exact HB.out | apply below_alloc | apply pw_below_drewN | apply below_drew1 | refine below_set ?_ GE128.out | refine below_set ?_ GE138.out) | exact HB.out)⟩⟩
                                      · rw [if_neg c81] at H
                                        have c81b0 : decide ((wrap64 (t130 + t139)) ≤ t145) = false := decide_eq_false c81
                                        clear c81
                                        have H' := Aside0.mk H
                                        clear H
                                        have hnb87 := NB138_128.out
                                        have hnc87 := NB128_138.out
                                        have hcz88_0 : wc.cell? ⟨gb138, 0, none⟩ = some (.int .i64 t130) := (blk_cell BK138.out 0).trans rfl
                                        have hcz88_1 : wc.cell? ⟨gb138, 1, none⟩ = some (.int .i64 t131) := (blk_cell BK138.out 1).trans rfl
                                        have hcz88_2 : wc.cell? ⟨gb138, 2, none⟩ = some (.int .i64 t132) := (blk_cell BK138.out 2).trans rfl
                                        have hcz88_3 : wc.cell? ⟨gb138, 3, none⟩ = some (.int .i64 t133) := (blk_cell BK138.out 3).trans rfl
                                        have hcz88_4 : wc.cell? ⟨gb138, 4, none⟩ = some (.int .i64 t134) := (blk_cell BK138.out 4).trans rfl
                                        have hcz88_5 : wc.cell? ⟨gb138, 5, none⟩ = some (.slice Ao15 t135.length co15) := (blk_cell BK138.out 5).trans rfl
                                        have hfz88_0 := blk_frozen BK138.out 0
                                        have hfz88_1 := blk_frozen BK138.out 1
                                        have hfz88_2 := blk_frozen BK138.out 2
                                        have hfz88_3 := blk_frozen BK138.out 3
                                        have hfz88_4 := blk_frozen BK138.out 4
                                        have hfz88_5 := blk_frozen BK138.out 5
                                        go_wp2
                                        repeat (go_quiet (fail); try go_wp2)
                                        go_roundg kj27
                                        case measure => have := HK1.out; have := HJ15.out; have := HJ22.out; have := HJ27.out; omega
                                        case rel => exact ⟨(t144), (t145), (wrap64 (x11_1 + 1)), (wrap64 (x13_1 + 1)), (by first | rfl | (simp; done) | (simp [*]; done)), (by first | rfl | (simp; done) | (simp [*]; done)), (by first | rfl | (simp; done) | (simp [*]; done)), (by first | rfl | (simp; done) | (simp [*]; done)), H', ⟨by have := HK1.out; have := HJ15.out; have := HJ22.out; have := HJ27.out; omega⟩, ⟨by (with_reducible repeat (first | apply Kd.R_alloc | apply Kd.R_drewN | apply Kd.R_drew)); exact HO_139005.out⟩, ⟨by (with_reducible repeat (first | refine blk_drewN ?_ _ | refine blk_drew ?_ | refine blk_alloc ?_ _)); exact BK128.out⟩, ⟨by (with_reducible repeat (first | refine blk_drewN ?_ _ | refine blk_drew ?_ | refine blk_alloc ?_ _)); exact BK138.out⟩, ⟨by repeat (first | (with_reducible first | exact HB.out | apply below_alloc | apply pw_below_drewN | apply below_drew1 | refine below_set ?_ GE128.out | refine below_set ?_ GE138.out) | exact HB.out)⟩⟩
                          · replace c34 := Bool.eq_false_iff.mpr c34
                            subst c34
                            have H1 : (if t144 < 1 then (some false) else (if t144 > 4 then (some false) else (if t144 = 4 then (if (decide ((wrap64 (2 * (wrap64 (x14_22 + 1)))) > t130)) = true then (if t144 = 2 then (if x9_1 = 1 then (if 0 = (wrap64 (t130 + t139)) then (if t145 < 0 then (some false) else (if t145 ≥ (wrap64 (t130 + t139)) then (if t144 = 1 then (some false) else (plaitinglaw13_StateWalks.l0 kj27 l2 t139 t144 t145 0 (wrap64 (x13_1 + 1)) t130 t131 t132 t133 t134 t135)) else (plaitinglaw13_StateWalks.l0 kj27 l2 t139 t144 t145 0 (wrap64 (x13_1 + 1)) t130 t131 t132 t133 t134 t135))) else (some false)) else (some false)) else (if t145 < 0 then (some false) else (if t145 ≥ (wrap64 (t130 + t139)) then (if t144 = 1 then (some false) else (plaitinglaw13_StateWalks.l0 kj27 l2 t139 t144 t145 0 (wrap64 (x13_1 + 1)) t130 t131 t132 t133 t134 t135)) else (plaitinglaw13_StateWalks.l0 kj27 l2 t139 t144 t145 0 (wrap64 (x13_1 + 1)) t130 t131 t132 t133 t134 t135)))) else (some false)) else (if t144 = 2 then (if x9_1 = 1 then (if 0 = (wrap64 (t130 + t139)) then (if t145 < 0 then (some false) else (if t145 ≥ (wrap64 (t130 + t139)) then (if t144 = 1 then (some false) else (plaitinglaw13_StateWalks.l0 kj27 l2 t139 t144 t145 0 (wrap64 (x13_1 + 1)) t130 t131 t132 t133 t134 t135)) else (plaitinglaw13_StateWalks.l0 kj27 l2 t139 t144 t145 0 (wrap64 (x13_1 + 1)) t130 t131 t132 t133 t134 t135))) else (some false)) else (some false)) else (if t145 < 0 then (some false) else (if t145 ≥ (wrap64 (t130 + t139)) then (if t144 = 1 then (some false) else (plaitinglaw13_StateWalks.l0 kj27 l2 t139 t144 t145 0 (wrap64 (x13_1 + 1)) t130 t131 t132 t133 t134 t135)) else (plaitinglaw13_StateWalks.l0 kj27 l2 t139 t144 t145 0 (wrap64 (x13_1 + 1)) t130 t131 t132 t133 t134 t135))))))) = some r := by rw [if_neg (show ¬ (false = true) by decide)] at H; exact H
                            clear H
                            have H := H1
                            clear H1
                            by_cases c89 : t144 < 1
                            · rw [if_pos c89] at H
                              have c89b0 : decide (t144 < 1) = true := decide_eq_true c89
                              clear c89
                              exact Bool.noConfusion ((Option.some.inj H).trans HR_.out)
                            · rw [if_neg c89] at H
                              have c89b0 : decide (t144 < 1) = false := decide_eq_false c89
                              clear c89
                              by_cases c90 : t144 > 4
                              · rw [if_pos c90] at H
                                have c90b0 : decide (4 < t144) = true := decide_eq_true c90
                                clear c90
                                exact Bool.noConfusion ((Option.some.inj H).trans HR_.out)
                              · rw [if_neg c90] at H
                                have c90b0 : decide (4 < t144) = false := decide_eq_false c90
                                clear c90
                                by_cases c91 : t144 = 4
                                · rw [if_pos c91] at H
                                  have c91b0 : (t144 == 4) = true := beq_iff_eq.mpr c91
                                  have c91b1 : (t144 != 4) = false := bne_eq_false_iff_eq.mpr c91
                                  clear c91
                                  by_cases c92 : (decide ((wrap64 (2 * (wrap64 (x14_22 + 1)))) > t130)) = true
                                  · rw [if_pos c92] at H
                                    have c92b0 : (decide ((wrap64 (2 * (wrap64 (x14_22 + 1)))) > t130)) = true := c92
                                    clear c92
                                    by_cases c93 : t144 = 2
                                    · rw [if_pos c93] at H
                                      have c93b0 : (t144 == 2) = true := beq_iff_eq.mpr c93
                                      have c93b1 : (t144 != 2) = false := bne_eq_false_iff_eq.mpr c93
                                      clear c93
                                      by_cases c94 : x9_1 = 1
                                      · rw [if_pos c94] at H
                                        have c94b0 : (x9_1 == 1) = true := beq_iff_eq.mpr c94
                                        have c94b1 : (x9_1 != 1) = false := bne_eq_false_iff_eq.mpr c94
                                        clear c94
                                        by_cases c95 : 0 = (wrap64 (t130 + t139))
                                        · rw [if_pos c95] at H
                                          have c95b0 : (0 == (wrap64 (t130 + t139))) = true := beq_iff_eq.mpr c95
                                          have c95b1 : (0 != (wrap64 (t130 + t139))) = false := bne_eq_false_iff_eq.mpr c95
                                          clear c95
                                          by_cases c96 : t145 < 0
                                          · rw [if_pos c96] at H
                                            have c96b0 : decide (t145 < 0) = true := decide_eq_true c96
                                            clear c96
                                            exact Bool.noConfusion ((Option.some.inj H).trans HR_.out)
                                          · rw [if_neg c96] at H
                                            have c96b0 : decide (t145 < 0) = false := decide_eq_false c96
                                            clear c96
                                            by_cases c99 : t145 ≥ (wrap64 (t130 + t139))
                                            · rw [if_pos c99] at H
                                              have c99b0 : decide ((wrap64 (t130 + t139)) ≤ t145) = true := decide_eq_true c99
                                              clear c99
                                              by_cases c100 : t144 = 1
                                              · rw [if_pos c100] at H
                                                have c100b0 : (t144 == 1) = true := beq_iff_eq.mpr c100
                                                have c100b1 : (t144 != 1) = false := bne_eq_false_iff_eq.mpr c100
                                                clear c100
                                                exact Bool.noConfusion ((Option.some.inj H).trans HR_.out)
                                              · rw [if_neg c100] at H
                                                have c100b0 : (t144 == 1) = false := beq_eq_false_iff_ne.mpr c100
                                                have c100b1 : (t144 != 1) = true := bne_iff_ne.mpr c100
                                                have H' := Aside0.mk H
                                                clear H
                                                have hnb103 := NB138_128.out
                                                have hnc103 := NB128_138.out
                                                have hcz104_0 : wc.cell? ⟨gb138, 0, none⟩ = some (.int .i64 t130) := (blk_cell BK138.out 0).trans rfl
                                                have hcz104_1 : wc.cell? ⟨gb138, 1, none⟩ = some (.int .i64 t131) := (blk_cell BK138.out 1).trans rfl
                                                have hcz104_2 : wc.cell? ⟨gb138, 2, none⟩ = some (.int .i64 t132) := (blk_cell BK138.out 2).trans rfl
                                                have hcz104_3 : wc.cell? ⟨gb138, 3, none⟩ = some (.int .i64 t133) := (blk_cell BK138.out 3).trans rfl
                                                have hcz104_4 : wc.cell? ⟨gb138, 4, none⟩ = some (.int .i64 t134) := (blk_cell BK138.out 4).trans rfl
                                                have hcz104_5 : wc.cell? ⟨gb138, 5, none⟩ = some (.slice Ao15 t135.length co15) := (blk_cell BK138.out 5).trans rfl
                                                have hfz104_0 := blk_frozen BK138.out 0
                                                have hfz104_1 := blk_frozen BK138.out 1
                                                have hfz104_2 := blk_frozen BK138.out 2
                                                have hfz104_3 := blk_frozen BK138.out 3
                                                have hfz104_4 := blk_frozen BK138.out 4
                                                have hfz104_5 := blk_frozen BK138.out 5
                                                go_wp2
                                                repeat (go_quiet (fail); try go_wp2)
                                                go_roundg kj27
                                                case measure => have := HK1.out; have := HJ15.out; have := HJ22.out; have := HJ27.out; omega
                                                case rel => exact ⟨(t144), (t145), (0), (wrap64 (x13_1 + 1)), (by first | rfl | (simp; done) | (simp [*]; done)), (by first | rfl | (simp; done) | (simp [*]; done)), (by first | rfl | (simp; done) | (simp [*]; done)), (by first | rfl | (simp; done) | (simp [*]; done)), H', ⟨by have := HK1.out; have := HJ15.out; have := HJ22.out; have := HJ27.out; omega⟩, ⟨by (with_reducible repeat (first | apply Kd.R_alloc | apply Kd.R_drewN | apply Kd.R_drew)); exact HO_139005.out⟩, ⟨by (with_reducible repeat (first | refine blk_drewN ?_ _ | refine blk_drew ?_ | refine blk_alloc ?_ _)); exact BK128.out⟩, ⟨by (with_reducible repeat (first | refine blk_drewN ?_ _ | refine blk_drew ?_ | refine blk_alloc ?_ _)); exact BK138.out⟩, ⟨by repeat (first | (with_reducible first | exact HB.out | apply below_alloc | apply pw_below_drewN | apply below_drew1 | refine below_set ?_ GE128.out | refine below_set ?_ GE138.out) | exact HB.out)⟩⟩
                                            · rw [if_neg c99] at H
                                              have c99b0 : decide ((wrap64 (t130 + t139)) ≤ t145) = false := decide_eq_false c99
                                              clear c99
                                              have H' := Aside0.mk H
                                              clear H
                                              have hnb105 := NB138_128.out
                                              have hnc105 := NB128_138.out
                                              have hcz106_0 : wc.cell? ⟨gb138, 0, none⟩ = some (.int .i64 t130) := (blk_cell BK138.out 0).trans rfl
                                              have hcz106_1 : wc.cell? ⟨gb138, 1, none⟩ = some (.int .i64 t131) := (blk_cell BK138.out 1).trans rfl
                                              have hcz106_2 : wc.cell? ⟨gb138, 2, none⟩ = some (.int .i64 t132) := (blk_cell BK138.out 2).trans rfl
                                              have hcz106_3 : wc.cell? ⟨gb138, 3, none⟩ = some (.int .i64 t133) := (blk_cell BK138.out 3).trans rfl
                                              have hcz106_4 : wc.cell? ⟨gb138, 4, none⟩ = some (.int .i64 t134) := (blk_cell BK138.out 4).trans rfl
                                              have hcz106_5 : wc.cell? ⟨gb138, 5, none⟩ = some (.slice Ao15 t135.length co15) := (blk_cell BK138.out 5).trans rfl
                                              have hfz106_0 := blk_frozen BK138.out 0
                                              have hfz106_1 := blk_frozen BK138.out 1
                                              have hfz106_2 := blk_frozen BK138.out 2
                                              have hfz106_3 := blk_frozen BK138.out 3
                                              have hfz106_4 := blk_frozen BK138.out 4
                                              have hfz106_5 := blk_frozen BK138.out 5
                                              go_wp2
                                              repeat (go_quiet (fail); try go_wp2)
                                              go_roundg kj27
                                              case measure => have := HK1.out; have := HJ15.out; have := HJ22.out; have := HJ27.out; omega
                                              case rel => exact ⟨(t144), (t145), (0), (wrap64 (x13_1 + 1)), (by first | rfl | (simp; done) | (simp [*]; done)), (by first | rfl | (simp; done) | (simp [*]; done)), (by first | rfl | (simp; done) | (simp [*]; done)), (by first | rfl | (simp; done) | (simp [*]; done)), H', ⟨by have := HK1.out; have := HJ15.out; have := HJ22.out; have := HJ27.out; omega⟩, ⟨by (with_reducible repeat (first | apply Kd.R_alloc | apply Kd.R_drewN | apply Kd.R_drew)); exact HO_139005.out⟩, ⟨by (with_reducible repeat (first | refine blk_drewN ?_ _ | refine blk_drew ?_ | refine blk_alloc ?_ _)); exact BK128.out⟩, ⟨by (with_reducible repeat (first | refine blk_drewN ?_ _ | refine blk_drew ?_ | refine blk_alloc ?_ _)); exact BK138.out⟩, ⟨by repeat (first | (with_reducible first | exact HB.out | apply below_alloc | apply pw_below_drewN | apply below_drew1 | refine below_set ?_ GE128.out | refine below_set ?_ GE138.out) | exact HB.out)⟩⟩
                                        · rw [if_neg c95] at H
                                          have c95b0 : (0 == (wrap64 (t130 + t139))) = false := beq_eq_false_iff_ne.mpr c95
                                          have c95b1 : (0 != (wrap64 (t130 + t139))) = true := bne_iff_ne.mpr c95
                                          exact Bool.noConfusion ((Option.some.inj H).trans HR_.out)
                                      · rw [if_neg c94] at H
                                        have c94b0 : (x9_1 == 1) = false := beq_eq_false_iff_ne.mpr c94
                                        have c94b1 : (x9_1 != 1) = true := bne_iff_ne.mpr c94
                                        exact Bool.noConfusion ((Option.some.inj H).trans HR_.out)
                                    · rw [if_neg c93] at H
                                      have c93b0 : (t144 == 2) = false := beq_eq_false_iff_ne.mpr c93
                                      have c93b1 : (t144 != 2) = true := bne_iff_ne.mpr c93
                                      by_cases c109 : t145 < 0
                                      · rw [if_pos c109] at H
                                        have c109b0 : decide (t145 < 0) = true := decide_eq_true c109
                                        clear c109
                                        exact Bool.noConfusion ((Option.some.inj H).trans HR_.out)
                                      · rw [if_neg c109] at H
                                        have c109b0 : decide (t145 < 0) = false := decide_eq_false c109
                                        clear c109
                                        by_cases c110 : t145 ≥ (wrap64 (t130 + t139))
                                        · rw [if_pos c110] at H
                                          have c110b0 : decide ((wrap64 (t130 + t139)) ≤ t145) = true := decide_eq_true c110
                                          clear c110
                                          by_cases c111 : t144 = 1
                                          · rw [if_pos c111] at H
                                            have c111b0 : (t144 == 1) = true := beq_iff_eq.mpr c111
                                            have c111b1 : (t144 != 1) = false := bne_eq_false_iff_eq.mpr c111
                                            clear c111
                                            exact Bool.noConfusion ((Option.some.inj H).trans HR_.out)
                                          · rw [if_neg c111] at H
                                            have c111b0 : (t144 == 1) = false := beq_eq_false_iff_ne.mpr c111
                                            have c111b1 : (t144 != 1) = true := bne_iff_ne.mpr c111
                                            have H' := Aside0.mk H
                                            clear H
                                            have hnb114 := NB138_128.out
                                            have hnc114 := NB128_138.out
                                            have hcz115_0 : wc.cell? ⟨gb138, 0, none⟩ = some (.int .i64 t130) := (blk_cell BK138.out 0).trans rfl
                                            have hcz115_1 : wc.cell? ⟨gb138, 1, none⟩ = some (.int .i64 t131) := (blk_cell BK138.out 1).trans rfl
                                            have hcz115_2 : wc.cell? ⟨gb138, 2, none⟩ = some (.int .i64 t132) := (blk_cell BK138.out 2).trans rfl
                                            have hcz115_3 : wc.cell? ⟨gb138, 3, none⟩ = some (.int .i64 t133) := (blk_cell BK138.out 3).trans rfl
                                            have hcz115_4 : wc.cell? ⟨gb138, 4, none⟩ = some (.int .i64 t134) := (blk_cell BK138.out 4).trans rfl
                                            have hcz115_5 : wc.cell? ⟨gb138, 5, none⟩ = some (.slice Ao15 t135.length co15) := (blk_cell BK138.out 5).trans rfl
                                            have hfz115_0 := blk_frozen BK138.out 0
                                            have hfz115_1 := blk_frozen BK138.out 1
                                            have hfz115_2 := blk_frozen BK138.out 2
                                            have hfz115_3 := blk_frozen BK138.out 3
                                            have hfz115_4 := blk_frozen BK138.out 4
                                            have hfz115_5 := blk_frozen BK138.out 5
                                            go_wp2
                                            repeat (go_quiet (fail); try go_wp2)
                                            go_roundg kj27
                                            case measure => have := HK1.out; have := HJ15.out; have := HJ22.out; have := HJ27.out; omega
                                            case rel => exact ⟨(t144), (t145), (0), (wrap64 (x13_1 + 1)), (by first | rfl | (simp; done) | (simp [*]; done)), (by first | rfl | (simp; done) | (simp [*]; done)), (by first | rfl | (simp; done) | (simp [*]; done)), (by first | rfl | (simp; done) | (simp [*]; done)), H', ⟨by have := HK1.out; have := HJ15.out; have := HJ22.out; have := HJ27.out; omega⟩, ⟨by (with_reducible repeat (first | apply Kd.R_alloc | apply Kd.R_drewN | apply Kd.R_drew)); exact HO_139005.out⟩, ⟨by (with_reducible repeat (first | refine blk_drewN ?_ _ | refine blk_drew ?_ | refine blk_alloc ?_ _)); exact BK128.out⟩, ⟨by (with_reducible repeat (first | refine blk_drewN ?_ _ | refine blk_drew ?_ | refine blk_alloc ?_ _)); exact BK138.out⟩, ⟨by repeat (first | (with_reducible first | exact HB.out | apply below_alloc | apply pw_below_drewN | apply below_drew1 | refine below_set ?_ GE128.out | refine below_set ?_ GE138.out) | exact HB.out)⟩⟩
                                        · rw [if_neg c110] at H
                                          have c110b0 : decide ((wrap64 (t130 + t139)) ≤ t145) = false := decide_eq_false c110
                                          clear c110
                                          have H' := Aside0.mk H
                                          clear H
                                          have hnb116 := NB138_128.out
                                          have hnc116 := NB128_138.out
                                          have hcz117_0 : wc.cell? ⟨gb138, 0, none⟩ = some (.int .i64 t130) := (blk_cell BK138.out 0).trans rfl
                                          have hcz117_1 : wc.cell? ⟨gb138, 1, none⟩ = some (.int .i64 t131) := (blk_cell BK138.out 1).trans rfl
                                          have hcz117_2 : wc.cell? ⟨gb138, 2, none⟩ = some (.int .i64 t132) := (blk_cell BK138.out 2).trans rfl
                                          have hcz117_3 : wc.cell? ⟨gb138, 3, none⟩ = some (.int .i64 t133) := (blk_cell BK138.out 3).trans rfl
                                          have hcz117_4 : wc.cell? ⟨gb138, 4, none⟩ = some (.int .i64 t134) := (blk_cell BK138.out 4).trans rfl
                                          have hcz117_5 : wc.cell? ⟨gb138, 5, none⟩ = some (.slice Ao15 t135.length co15) := (blk_cell BK138.out 5).trans rfl
                                          have hfz117_0 := blk_frozen BK138.out 0
                                          have hfz117_1 := blk_frozen BK138.out 1
                                          have hfz117_2 := blk_frozen BK138.out 2
                                          have hfz117_3 := blk_frozen BK138.out 3
                                          have hfz117_4 := blk_frozen BK138.out 4
                                          have hfz117_5 := blk_frozen BK138.out 5
                                          go_wp2
                                          repeat (go_quiet (fail); try go_wp2)
                                          go_roundg kj27
                                          case measure => have := HK1.out; have := HJ15.out; have := HJ22.out; have := HJ27.out; omega
                                          case rel => exact ⟨(t144), (t145), (0), (wrap64 (x13_1 + 1)), (by first | rfl | (simp; done) | (simp [*]; done)), (by first | rfl | (simp; done) | (simp [*]; done)), (by first | rfl | (simp; done) | (simp [*]; done)), (by first | rfl | (simp; done) | (simp [*]; done)), H', ⟨by have := HK1.out; have := HJ15.out; have := HJ22.out; have := HJ27.out; omega⟩, ⟨by (with_reducible repeat (first | apply Kd.R_alloc | apply Kd.R_drewN | apply Kd.R_drew)); exact HO_139005.out⟩, ⟨by (with_reducible repeat (first | refine blk_drewN ?_ _ | refine blk_drew ?_ | refine blk_alloc ?_ _)); exact BK128.out⟩, ⟨by (with_reducible repeat (first | refine blk_drewN ?_ _ | refine blk_drew ?_ | refine blk_alloc ?_ _)); exact BK138.out⟩, ⟨by repeat (first | (with_reducible first | exact HB.out | apply below_alloc | apply pw_below_drewN | apply below_drew1 | refine below_set ?_ GE128.out | refine below_set ?_ GE138.out) | exact HB.out)⟩⟩
                                  · rw [if_neg c92] at H
                                    have c92b0 : (decide ((wrap64 (2 * (wrap64 (x14_22 + 1)))) > t130)) = false := by simpa using c92
                                    clear c92
                                    exact Bool.noConfusion ((Option.some.inj H).trans HR_.out)
                                · rw [if_neg c91] at H
                                  have c91b0 : (t144 == 4) = false := beq_eq_false_iff_ne.mpr c91
                                  have c91b1 : (t144 != 4) = true := bne_iff_ne.mpr c91
                                  by_cases c118 : t144 = 2
                                  · rw [if_pos c118] at H
                                    have c118b0 : (t144 == 2) = true := beq_iff_eq.mpr c118
                                    have c118b1 : (t144 != 2) = false := bne_eq_false_iff_eq.mpr c118
                                    clear c118
                                    by_cases c119 : x9_1 = 1
                                    · rw [if_pos c119] at H
                                      have c119b0 : (x9_1 == 1) = true := beq_iff_eq.mpr c119
                                      have c119b1 : (x9_1 != 1) = false := bne_eq_false_iff_eq.mpr c119
                                      clear c119
                                      by_cases c120 : 0 = (wrap64 (t130 + t139))
                                      · rw [if_pos c120] at H
                                        have c120b0 : (0 == (wrap64 (t130 + t139))) = true := beq_iff_eq.mpr c120
                                        have c120b1 : (0 != (wrap64 (t130 + t139))) = false := bne_eq_false_iff_eq.mpr c120
                                        clear c120
                                        by_cases c121 : t145 < 0
                                        · rw [if_pos c121] at H
                                          have c121b0 : decide (t145 < 0) = true := decide_eq_true c121
                                          clear c121
                                          exact Bool.noConfusion ((Option.some.inj H).trans HR_.out)
                                        · rw [if_neg c121] at H
                                          have c121b0 : decide (t145 < 0) = false := decide_eq_false c121
                                          clear c121
                                          by_cases c124 : t145 ≥ (wrap64 (t130 + t139))
                                          · rw [if_pos c124] at H
                                            have c124b0 : decide ((wrap64 (t130 + t139)) ≤ t145) = true := decide_eq_true c124
                                            clear c124
                                            by_cases c125 : t144 = 1
                                            · rw [if_pos c125] at H
                                              have c125b0 : (t144 == 1) = true := beq_iff_eq.mpr c125
                                              have c125b1 : (t144 != 1) = false := bne_eq_false_iff_eq.mpr c125
                                              clear c125
                                              exact Bool.noConfusion ((Option.some.inj H).trans HR_.out)
                                            · rw [if_neg c125] at H
                                              have c125b0 : (t144 == 1) = false := beq_eq_false_iff_ne.mpr c125
                                              have c125b1 : (t144 != 1) = true := bne_iff_ne.mpr c125
                                              have H' := Aside0.mk H
                                              clear H
                                              have hnb128 := NB138_128.out
                                              have hnc128 := NB128_138.out
                                              have hcz129_0 : wc.cell? ⟨gb138, 0, none⟩ = some (.int .i64 t130) := (blk_cell BK138.out 0).trans rfl
                                              have hcz129_1 : wc.cell? ⟨gb138, 1, none⟩ = some (.int .i64 t131) := (blk_cell BK138.out 1).trans rfl
                                              have hcz129_2 : wc.cell? ⟨gb138, 2, none⟩ = some (.int .i64 t132) := (blk_cell BK138.out 2).trans rfl
                                              have hcz129_3 : wc.cell? ⟨gb138, 3, none⟩ = some (.int .i64 t133) := (blk_cell BK138.out 3).trans rfl
                                              have hcz129_4 : wc.cell? ⟨gb138, 4, none⟩ = some (.int .i64 t134) := (blk_cell BK138.out 4).trans rfl
                                              have hcz129_5 : wc.cell? ⟨gb138, 5, none⟩ = some (.slice Ao15 t135.length co15) := (blk_cell BK138.out 5).trans rfl
                                              have hfz129_0 := blk_frozen BK138.out 0
                                              have hfz129_1 := blk_frozen BK138.out 1
                                              have hfz129_2 := blk_frozen BK138.out 2
                                              have hfz129_3 := blk_frozen BK138.out 3
                                              have hfz129_4 := blk_frozen BK138.out 4
                                              have hfz129_5 := blk_frozen BK138.out 5
                                              go_wp2
                                              repeat (go_quiet (fail); try go_wp2)
                                              go_roundg kj27
                                              case measure => have := HK1.out; have := HJ15.out; have := HJ22.out; have := HJ27.out; omega
                                              case rel => exact ⟨(t144), (t145), (0), (wrap64 (x13_1 + 1)), (by first | rfl | (simp; done) | (simp [*]; done)), (by first | rfl | (simp; done) | (simp [*]; done)), (by first | rfl | (simp; done) | (simp [*]; done)), (by first | rfl | (simp; done) | (simp [*]; done)), H', ⟨by have := HK1.out; have := HJ15.out; have := HJ22.out; have := HJ27.out; omega⟩, ⟨by (with_reducible repeat (first | apply Kd.R_alloc | apply Kd.R_drewN | apply Kd.R_drew)); exact HO_139005.out⟩, ⟨by (with_reducible repeat (first | refine blk_drewN ?_ _ | refine blk_drew ?_ | refine blk_alloc ?_ _)); exact BK128.out⟩, ⟨by (with_reducible repeat (first | refine blk_drewN ?_ _ | refine blk_drew ?_ | refine blk_alloc ?_ _)); exact BK138.out⟩, ⟨by repeat (first | (with_reducible first | exact HB.out | apply below_alloc | apply pw_below_drewN | apply below_drew1 | refine below_set ?_ GE128.out | refine below_set ?_ GE138.out) | exact HB.out)⟩⟩
                                          · rw [if_neg c124] at H
                                            have c124b0 : decide ((wrap64 (t130 + t139)) ≤ t145) = false := decide_eq_false c124
                                            clear c124
                                            have H' := Aside0.mk H
                                            clear H
                                            have hnb130 := NB138_128.out
                                            have hnc130 := NB128_138.out
                                            have hcz131_0 : wc.cell? ⟨gb138, 0, none⟩ = some (.int .i64 t130) := (blk_cell BK138.out 0).trans rfl
                                            have hcz131_1 : wc.cell? ⟨gb138, 1, none⟩ = some (.int .i64 t131) := (blk_cell BK138.out 1).trans rfl
                                            have hcz131_2 : wc.cell? ⟨gb138, 2, none⟩ = some (.int .i64 t132) := (blk_cell BK138.out 2).trans rfl
                                            have hcz131_3 : wc.cell? ⟨gb138, 3, none⟩ = some (.int .i64 t133) := (blk_cell BK138.out 3).trans rfl
                                            have hcz131_4 : wc.cell? ⟨gb138, 4, none⟩ = some (.int .i64 t134) := (blk_cell BK138.out 4).trans rfl
                                            have hcz131_5 : wc.cell? ⟨gb138, 5, none⟩ = some (.slice Ao15 t135.length co15) := (blk_cell BK138.out 5).trans rfl
                                            have hfz131_0 := blk_frozen BK138.out 0
                                            have hfz131_1 := blk_frozen BK138.out 1
                                            have hfz131_2 := blk_frozen BK138.out 2
                                            have hfz131_3 := blk_frozen BK138.out 3
                                            have hfz131_4 := blk_frozen BK138.out 4
                                            have hfz131_5 := blk_frozen BK138.out 5
                                            go_wp2
                                            repeat (go_quiet (fail); try go_wp2)
                                            go_roundg kj27
                                            case measure => have := HK1.out; have := HJ15.out; have := HJ22.out; have := HJ27.out; omega
                                            case rel => exact ⟨(t144), (t145), (0), (wrap64 (x13_1 + 1)), (by first | rfl | (simp; done) | (simp [*]; done)), (by first | rfl | (simp; done) | (simp [*]; done)), (by first | rfl | (simp; done) | (simp [*]; done)), (by first | rfl | (simp; done) | (simp [*]; done)), H', ⟨by have := HK1.out; have := HJ15.out; have := HJ22.out; have := HJ27.out; omega⟩, ⟨by (with_reducible repeat (first | apply Kd.R_alloc | apply Kd.R_drewN | apply Kd.R_drew)); exact HO_139005.out⟩, ⟨by (with_reducible repeat (first | refine blk_drewN ?_ _ | refine blk_drew ?_ | refine blk_alloc ?_ _)); exact BK128.out⟩, ⟨by (with_reducible repeat (first | refine blk_drewN ?_ _ | refine blk_drew ?_ | refine blk_alloc ?_ _)); exact BK138.out⟩, ⟨by repeat (first | (with_reducible first | exact HB.out | apply below_alloc | apply pw_below_drewN | apply below_drew1 | refine below_set ?_ GE128.out | refine below_set ?_ GE138.out) | exact HB.out)⟩⟩
                                      · rw [if_neg c120] at H
                                        have c120b0 : (0 == (wrap64 (t130 + t139))) = false := beq_eq_false_iff_ne.mpr c120
                                        have c120b1 : (0 != (wrap64 (t130 + t139))) = true := bne_iff_ne.mpr c120
                                        exact Bool.noConfusion ((Option.some.inj H).trans HR_.out)
                                    · rw [if_neg c119] at H
                                      have c119b0 : (x9_1 == 1) = false := beq_eq_false_iff_ne.mpr c119
                                      have c119b1 : (x9_1 != 1) = true := bne_iff_ne.mpr c119
                                      exact Bool.noConfusion ((Option.some.inj H).trans HR_.out)
                                  · rw [if_neg c118] at H
                                    have c118b0 : (t144 == 2) = false := beq_eq_false_iff_ne.mpr c118
                                    have c118b1 : (t144 != 2) = true := bne_iff_ne.mpr c118
                                    by_cases c134 : t145 < 0
                                    · rw [if_pos c134] at H
                                      have c134b0 : decide (t145 < 0) = true := decide_eq_true c134
                                      clear c134
                                      exact Bool.noConfusion ((Option.some.inj H).trans HR_.out)
                                    · rw [if_neg c134] at H
                                      have c134b0 : decide (t145 < 0) = false := decide_eq_false c134
                                      clear c134
                                      by_cases c135 : t145 ≥ (wrap64 (t130 + t139))
                                      · rw [if_pos c135] at H
                                        have c135b0 : decide ((wrap64 (t130 + t139)) ≤ t145) = true := decide_eq_true c135
                                        clear c135
                                        by_cases c136 : t144 = 1
                                        · rw [if_pos c136] at H
                                          have c136b0 : (t144 == 1) = true := beq_iff_eq.mpr c136
                                          have c136b1 : (t144 != 1) = false := bne_eq_false_iff_eq.mpr c136
                                          clear c136
                                          exact Bool.noConfusion ((Option.some.inj H).trans HR_.out)
                                        · rw [if_neg c136] at H
                                          have c136b0 : (t144 == 1) = false := beq_eq_false_iff_ne.mpr c136
                                          have c136b1 : (t144 != 1) = true := bne_iff_ne.mpr c136
                                          have H' := Aside0.mk H
                                          clear H
                                          have hnb139 := NB138_128.out
                                          have hnc139 := NB128_138.out
                                          have hcz140_0 : wc.cell? ⟨gb138, 0, none⟩ = some (.int .i64 t130) := (blk_cell BK138.out 0).trans rfl
                                          have hcz140_1 : wc.cell? ⟨gb138, 1, none⟩ = some (.int .i64 t131) := (blk_cell BK138.out 1).trans rfl
                                          have hcz140_2 : wc.cell? ⟨gb138, 2, none⟩ = some (.int .i64 t132) := (blk_cell BK138.out 2).trans rfl
                                          have hcz140_3 : wc.cell? ⟨gb138, 3, none⟩ = some (.int .i64 t133) := (blk_cell BK138.out 3).trans rfl
                                          have hcz140_4 : wc.cell? ⟨gb138, 4, none⟩ = some (.int .i64 t134) := (blk_cell BK138.out 4).trans rfl
                                          have hcz140_5 : wc.cell? ⟨gb138, 5, none⟩ = some (.slice Ao15 t135.length co15) := (blk_cell BK138.out 5).trans rfl
                                          have hfz140_0 := blk_frozen BK138.out 0
                                          have hfz140_1 := blk_frozen BK138.out 1
                                          have hfz140_2 := blk_frozen BK138.out 2
                                          have hfz140_3 := blk_frozen BK138.out 3
                                          have hfz140_4 := blk_frozen BK138.out 4
                                          have hfz140_5 := blk_frozen BK138.out 5
                                          go_wp2
                                          repeat (go_quiet (fail); try go_wp2)
                                          go_roundg kj27
                                          case measure => have := HK1.out; have := HJ15.out; have := HJ22.out; have := HJ27.out; omega
                                          case rel => exact ⟨(t144), (t145), (0), (wrap64 (x13_1 + 1)), (by first | rfl | (simp; done) | (simp [*]; done)), (by first | rfl | (simp; done) | (simp [*]; done)), (by first | rfl | (simp; done) | (simp [*]; done)), (by first | rfl | (simp; done) | (simp [*]; done)), H', ⟨by have := HK1.out; have := HJ15.out; have := HJ22.out; have := HJ27.out; omega⟩, ⟨by (with_reducible repeat (first | apply Kd.R_alloc | apply Kd.R_drewN | apply Kd.R_drew)); exact HO_139005.out⟩, ⟨by (with_reducible repeat (first | refine blk_drewN ?_ _ | refine blk_drew ?_ | refine blk_alloc ?_ _)); exact BK128.out⟩, ⟨by (with_reducible repeat (first | refine blk_drewN ?_ _ | refine blk_drew ?_ | refine blk_alloc ?_ _)); exact BK138.out⟩, ⟨by repeat (first | (with_reducible first | exact HB.out | apply below_alloc | apply pw_below_drewN | apply below_drew1 | refine below_set ?_ GE128.out | refine below_set ?_ GE138.out) | exact HB.out)⟩⟩
                                      · rw [if_neg c135] at H
                                        have c135b0 : decide ((wrap64 (t130 + t139)) ≤ t145) = false := decide_eq_false c135
                                        clear c135
                                        have H' := Aside0.mk H
                                        clear H
                                        have hnb141 := NB138_128.out
                                        have hnc141 := NB128_138.out
                                        have hcz142_0 : wc.cell? ⟨gb138, 0, none⟩ = some (.int .i64 t130) := (blk_cell BK138.out 0).trans rfl
                                        have hcz142_1 : wc.cell? ⟨gb138, 1, none⟩ = some (.int .i64 t131) := (blk_cell BK138.out 1).trans rfl
                                        have hcz142_2 : wc.cell? ⟨gb138, 2, none⟩ = some (.int .i64 t132) := (blk_cell BK138.out 2).trans rfl
                                        have hcz142_3 : wc.cell? ⟨gb138, 3, none⟩ = some (.int .i64 t133) := (blk_cell BK138.out 3).trans rfl
                                        have hcz142_4 : wc.cell? ⟨gb138, 4, none⟩ = some (.int .i64 t134) := (blk_cell BK138.out 4).trans rfl
                                        have hcz142_5 : wc.cell? ⟨gb138, 5, none⟩ = some (.slice Ao15 t135.length co15) := (blk_cell BK138.out 5).trans rfl
                                        have hfz142_0 := blk_frozen BK138.out 0
                                        have hfz142_1 := blk_frozen BK138.out 1
                                        have hfz142_2 := blk_frozen BK138.out 2
                                        have hfz142_3 := blk_frozen BK138.out 3
                                        have hfz142_4 := blk_frozen BK138.out 4
                                        have hfz142_5 := blk_frozen BK138.out 5
                                        go_wp2
                                        repeat (go_quiet (fail); try go_wp2)
                                        go_roundg kj27
                                        case measure => have := HK1.out; have := HJ15.out; have := HJ22.out; have := HJ27.out; omega
                                        case rel => exact ⟨(t144), (t145), (0), (wrap64 (x13_1 + 1)), (by first | rfl | (simp; done) | (simp [*]; done)), (by first | rfl | (simp; done) | (simp [*]; done)), (by first | rfl | (simp; done) | (simp [*]; done)), (by first | rfl | (simp; done) | (simp [*]; done)), H', ⟨by have := HK1.out; have := HJ15.out; have := HJ22.out; have := HJ27.out; omega⟩, ⟨by (with_reducible repeat (first | apply Kd.R_alloc | apply Kd.R_drewN | apply Kd.R_drew)); exact HO_139005.out⟩, ⟨by (with_reducible repeat (first | refine blk_drewN ?_ _ | refine blk_drew ?_ | refine blk_alloc ?_ _)); exact BK128.out⟩, ⟨by (with_reducible repeat (first | refine blk_drewN ?_ _ | refine blk_drew ?_ | refine blk_alloc ?_ _)); exact BK138.out⟩, ⟨by repeat (first | (with_reducible first | exact HB.out | apply below_alloc | apply pw_below_drewN | apply below_drew1 | refine below_set ?_ GE128.out | refine below_set ?_ GE138.out) | exact HB.out)⟩⟩
                · rw [if_neg c20] at H
                  exact absurd H (by simp)
              · rw [if_neg c19] at H
                exact absurd H (by simp)
            · replace c18 := Bool.eq_false_iff.mpr c18
              subst c18
              have H1 : (some true) = some r := by rw [if_neg (show ¬ (false = true) by decide)] at H; exact H
              clear H
              have H := H1
              clear H1
              obtain rfl := Option.some.inj H
              go_wp2
              repeat (go_quiet (fail); try go_wp2)
              go_ret
              exact ⟨by first | rfl | (simp [errW_none, errW_some] <;> rfl) | (simp [*, errW_none, errW_some] <;> rfl), by repeat (first | (with_reducible first | exact HB.out | apply below_alloc | apply pw_below_drewN | apply below_drew1 | refine below_set ?_ GE128.out | refine below_set ?_ GE138.out) | exact HB.out)⟩
  · replace c5 := Bool.eq_false_iff.mpr c5
    subst c5
    have H1 : (some false) = some r := by rw [if_neg (show ¬ (false = true) by decide)] at H; exact H
    clear H
    have H := H1
    clear H1
    exact Bool.noConfusion ((Option.some.inj H).trans HR_.out)
end Go.Proofs.Ytcfihnimogidhaa.PStateWalks
