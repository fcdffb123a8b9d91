/- Functions that the claim reaches, each as a plain Lean function with a proof that the Go call comes to what it answers, written by the printer of the kit for this claim over stand-in bodies whose own contracts are proved by hand. Conditions: the readings stated in each theorem. -/
import Derived.Test.YtghdfppllknabaaPVoteGrowsx0
import Derived.Test.YtghdfppllknabaaPVoteGrowsx1
import Derived.Test.YtghdfppllknabaaPVoteGrowsx2
import Derived.Test.YtghdfppllknabaaPVoteGrowsx3
namespace Go.Proofs.Ytghdfppllknabaa.PVoteGrows
open Go.RowKit Go.Proofs.YtghdfppllknabaaW.PrintWords Go.Proofs.YtghdfppllknabaaW.PrintLast Go.Proofs.YtghdfppllknabaaW.PrintMore
attribute [local go_sem] max2_int min2_int max_two min_two max_three min_three max_four min_four   -- for this text's walks alone
set_option linter.unusedVariables false
set_option linter.unusedSimpArgs false

attribute [local go_sem high] eqA29
/-! ### plaitinglaw15_VoteGrows: function 7 -/
def plaitinglaw15_VoteGrows.f (k : Nat) (l0 : List Int) : Option (Bool) := (plaitinglaw15_known.f k).bind fun t148 => (if t148 = true then ((plaitinglaw15_Row.f k l0).bind fun bt149 => ((vote_Most.f k bt149.1).bind fun bt155 => (if ([] : List (S31)).length + bt149.1.length < 5864062014805 then ((some (([] : List (S31)) ++ bt149.1 : List (S31))).bind fun y158 => ((some (([(⟨true, (⟨bt155.1, bt155.2⟩ : S29)⟩ : S31)] : List (S31)) : List (S31))).bind fun y161 => (if y158.length + y161.length < 5864062014805 then ((some (([] : List (S31)) ++ bt149.1 : List (S31))).bind fun y167 => ((some (([(⟨false, (⟨0, 0⟩ : S29)⟩ : S31)] : List (S31)) : List (S31))).bind fun y170 => (if y167.length + y170.length < 5864062014805 then ((vote_Most.f k (y167 ++ y170)).bind fun bt176 => (if (bt155.1 == 0 && (bt155.2 == 0)) = true then (if (bt176.1 == bt155.1 && (bt176.2 == bt155.2)) = true then (some true) else (some (bt176.1 == 0 && (bt176.2 == 0)))) else ((vote_Most.f k (y158 ++ y161)).bind fun bt179 => (if (bt179.1 == bt155.1 && (bt179.2 == bt155.2)) = true then (if (bt176.1 == bt155.1 && (bt176.2 == bt155.2)) = true then (some true) else (some (bt176.1 == 0 && (bt176.2 == 0)))) else (some false))))) else (none)))) else (none)))) else (none)))) else (some false))
theorem plaitinglaw15_VoteGrows.mono : ∀ a0 k, LeO (plaitinglaw15_VoteGrows.f k a0) (plaitinglaw15_VoteGrows.f (k + 1) a0) := by
  intro a0 k
  unfold plaitinglaw15_VoteGrows.f
  repeat' first
      | (with_reducible exact plaitinglaw15_Row.mono _ _)
      | (with_reducible exact plaitinglaw15_known.mono _)
      | (with_reducible exact vote_Most.mono _ _)
      | (with_reducible exact LeO.refl _)
      | (with_reducible exact LeO.none _)
      | (with_reducible refine LeO.ite ?_ ?_)
      | (with_reducible refine LeO.bind ?_ (fun _ => ?_))
      | exact plaitinglaw15_Row.mono _ _
      | exact plaitinglaw15_known.mono _
      | exact vote_Most.mono _ _
      | exact LeO.none _
      | refine LeO.ite ?_ ?_
      | refine LeO.bind ?_ (fun _ => ?_)
def plaitinglaw15_VoteGrows.T6 : Bool × List (List Nat × List Nat) := (true, [([], []), ([], []), ([0, 1], [0, 1]), ([], []), ([3], [3]), ([4], [4]), ([2, 5, 2], [2, 5]), ([], []), ([], []), ([7, 8, 6], [7, 8]), ([], []), ([10], [10]), ([9, 11, 9], [9, 11]), ([6, 12, 0, 1, 2, 3, 4, 5, 6], [0, 6]), ([12, 13, 0, 1, 2, 3, 4, 5, 6, 7, 8, 9, 10, 11, 12, 13], [7, 12])])
def plaitinglaw15_VoteGrows.B6 : List Nat := [0, 0, 3, 0, 8, 24, 63, 0, 0, 511, 0, 1024, 4095, 8191, 16383]
theorem plaitinglaw15_VoteGrows.tab6 : rtab .any (opsOf Try.f7 6) = plaitinglaw15_VoteGrows.T6 := by kernel_rfl
theorem plaitinglaw15_VoteGrows.bits6 : waitsOk plaitinglaw15_VoteGrows.T6.2 plaitinglaw15_VoteGrows.B6 = true := by kernel_rfl
def plaitinglaw15_VoteGrows.T8 : Bool × List (List Nat × List Nat) := (true, [([], []), ([], []), ([0, 1], [0, 1]), ([2], [2]), ([3], [3]), ([4, 3, 3], [3, 4]), ([3], [3]), ([5, 6, 3], [3, 5, 6]), ([3, 7], [3, 7]), ([8, 5], [8]), ([9], [9]), ([9], [9]), ([10, 11, 9], [9, 10, 11]), ([12, 9, 9], [9, 12]), ([13], [13]), ([13], [13]), ([14, 15, 13], [13, 14, 15]), ([13, 16, 9], [9, 13, 16]), ([9, 17], [9, 17]), ([18, 13, 0, 1, 2, 3, 4, 5, 6, 7, 8, 9, 10, 11, 12, 13, 14, 15, 16, 17, 18], [18])])
def plaitinglaw15_VoteGrows.B8 : List Nat := [0, 0, 3, 7, 15, 31, 15, 127, 255, 511, 1023, 1023, 4095, 8191, 16383, 16383, 65535, 131071, 262143, 524287]
theorem plaitinglaw15_VoteGrows.tab8 : rtab .any (opsOf Try.f7 8) = plaitinglaw15_VoteGrows.T8 := by kernel_rfl
theorem plaitinglaw15_VoteGrows.bits8 : waitsOk plaitinglaw15_VoteGrows.T8.2 plaitinglaw15_VoteGrows.B8 = true := by kernel_rfl
set_option maxHeartbeats 8000000 in
set_option maxRecDepth 100000 in
theorem plaitinglaw15_VoteGrows.calls (k : Nat) (A0 : Option Addr) (c0 : Nat) (l0 : List Int) (r : Bool) (w : World) (hr_ : r = true) (hr0 : Kd.C (Kd.int .i64) w A0 l0.length l0) (hc0 : l0.length ≤ c0) (h : plaitinglaw15_VoteGrows.f k l0 = some r) :
    Calls Try.prog 7 #[.slice A0 l0.length c0] w fun e w' => e = .returned (.bool r) ∧ Below w.heap.size w w' := by
  have HR_ := Aside0.mk hr_
  clear hr_
  have hu29 := Try.underlying29
  have hu31 := Try.underlying31
  have HR0 := Aside0.mk hr0
  have HC0 := Aside0.mk hc0
  clear hr0 hc0
  have HB := Aside0.mk (Below.refl w.heap.size w)
  have H : ((plaitinglaw15_known.f k).bind fun t148 => (if t148 = true then ((plaitinglaw15_Row.f k l0).bind fun bt149 => ((vote_Most.f k bt149.1).bind fun bt155 => (if ([] : List (S31)).length + bt149.1.length < 5864062014805 then ((some (([] : List (S31)) ++ bt149.1 : List (S31))).bind fun y158 => ((some (([(⟨true, (⟨bt155.1, bt155.2⟩ : S29)⟩ : S31)] : List (S31)) : List (S31))).bind fun y161 => (if y158.length + y161.length < 5864062014805 then ((some (([] : List (S31)) ++ bt149.1 : List (S31))).bind fun y167 => ((some (([(⟨false, (⟨0, 0⟩ : S29)⟩ : S31)] : List (S31)) : List (S31))).bind fun y170 => (if y167.length + y170.length < 5864062014805 then ((vote_Most.f k (y167 ++ y170)).bind fun bt176 => (if (bt155.1 == 0 && (bt155.2 == 0)) = true then (if (bt176.1 == bt155.1 && (bt176.2 == bt155.2)) = true then (some true) else (some (bt176.1 == 0 && (bt176.2 == 0)))) else ((vote_Most.f k (y158 ++ y161)).bind fun bt179 => (if (bt179.1 == bt155.1 && (bt179.2 == bt155.2)) = true then (if (bt176.1 == bt155.1 && (bt176.2 == bt155.2)) = true then (some true) else (some (bt176.1 == 0 && (bt176.2 == 0)))) else (some false))))) else (none)))) else (none)))) else (none)))) else (some false))) = some r := h
  clear h
  replace H := Option.bind_eq_some_iff.mp H
  obtain ⟨t148, A20, H⟩ := H
  replace H : (if t148 = true then ((plaitinglaw15_Row.f k l0).bind fun bt149 => ((vote_Most.f k bt149.1).bind fun bt155 => (if ([] : List (S31)).length + bt149.1.length < 5864062014805 then ((some (([] : List (S31)) ++ bt149.1 : List (S31))).bind fun y158 => ((some (([(⟨true, (⟨bt155.1, bt155.2⟩ : S29)⟩ : S31)] : List (S31)) : List (S31))).bind fun y161 => (if y158.length + y161.length < 5864062014805 then ((some (([] : List (S31)) ++ bt149.1 : List (S31))).bind fun y167 => ((some (([(⟨false, (⟨0, 0⟩ : S29)⟩ : S31)] : List (S31)) : List (S31))).bind fun y170 => (if y167.length + y170.length < 5864062014805 then ((vote_Most.f k (y167 ++ y170)).bind fun bt176 => (if (bt155.1 == 0 && (bt155.2 == 0)) = true then (if (bt176.1 == bt155.1 && (bt176.2 == bt155.2)) = true then (some true) else (some (bt176.1 == 0 && (bt176.2 == 0)))) else ((vote_Most.f k (y158 ++ y161)).bind fun bt179 => (if (bt179.1 == bt155.1 && (bt179.2 == bt155.2)) = true then (if (bt176.1 == bt155.1 && (bt176.2 == bt155.2)) = true then (some true) else (some (bt176.1 == 0 && (bt176.2 == 0)))) else (some false))))) else (none)))) else (none)))) else (none)))) else (some false)) = some r := H
  have A2 := Aside0.mk A20
  clear A20
  by_cases c3 : t148 = true
  · subst c3
    have H1 : ((plaitinglaw15_Row.f k l0).bind fun bt149 => ((vote_Most.f k bt149.1).bind fun bt155 => (if ([] : List (S31)).length + bt149.1.length < 5864062014805 then ((some (([] : List (S31)) ++ bt149.1 : List (S31))).bind fun y158 => ((some (([(⟨true, (⟨bt155.1, bt155.2⟩ : S29)⟩ : S31)] : List (S31)) : List (S31))).bind fun y161 => (if y158.length + y161.length < 5864062014805 then ((some (([] : List (S31)) ++ bt149.1 : List (S31))).bind fun y167 => ((some (([(⟨false, (⟨0, 0⟩ : S29)⟩ : S31)] : List (S31)) : List (S31))).bind fun y170 => (if y167.length + y170.length < 5864062014805 then ((vote_Most.f k (y167 ++ y170)).bind fun bt176 => (if (bt155.1 == 0 && (bt155.2 == 0)) = true then (if (bt176.1 == bt155.1 && (bt176.2 == bt155.2)) = true then (some true) else (some (bt176.1 == 0 && (bt176.2 == 0)))) else ((vote_Most.f k (y158 ++ y161)).bind fun bt179 => (if (bt179.1 == bt155.1 && (bt179.2 == bt155.2)) = true then (if (bt176.1 == bt155.1 && (bt176.2 == bt155.2)) = true then (some true) else (some (bt176.1 == 0 && (bt176.2 == 0)))) else (some false))))) else (none)))) else (none)))) else (none)))) = some r := by rw [if_pos rfl] at H; exact H
    clear H
    have H := H1
    clear H1
    replace H := Option.bind_eq_some_iff.mp H
    obtain ⟨⟨t149, t150⟩, A40, H⟩ := H
    replace H : ((vote_Most.f k t149).bind fun bt155 => (if ([] : List (S31)).length + t149.length < 5864062014805 then ((some (([] : List (S31)) ++ t149 : List (S31))).bind fun y158 => ((some (([(⟨true, (⟨bt155.1, bt155.2⟩ : S29)⟩ : S31)] : List (S31)) : List (S31))).bind fun y161 => (if y158.length + y161.length < 5864062014805 then ((some (([] : List (S31)) ++ t149 : List (S31))).bind fun y167 => ((some (([(⟨false, (⟨0, 0⟩ : S29)⟩ : S31)] : List (S31)) : List (S31))).bind fun y170 => (if y167.length + y170.length < 5864062014805 then ((vote_Most.f k (y167 ++ y170)).bind fun bt176 => (if (bt155.1 == 0 && (bt155.2 == 0)) = true then (if (bt176.1 == bt155.1 && (bt176.2 == bt155.2)) = true then (some true) else (some (bt176.1 == 0 && (bt176.2 == 0)))) else ((vote_Most.f k (y158 ++ y161)).bind fun bt179 => (if (bt179.1 == bt155.1 && (bt179.2 == bt155.2)) = true then (if (bt176.1 == bt155.1 && (bt176.2 == bt155.2)) = true then (some true) else (some (bt176.1 == 0 && (bt176.2 == 0)))) else (some false))))) else (none)))) else (none)))) else (none))) = some r := H
    have A4 := Aside0.mk A40
    clear A40
    replace H := Option.bind_eq_some_iff.mp H
    obtain ⟨⟨t155, t156⟩, A50, H⟩ := H
    replace H : (if ([] : List (S31)).length + t149.length < 5864062014805 then ((some (([] : List (S31)) ++ t149 : List (S31))).bind fun y158 => ((some (([(⟨true, (⟨t155, t156⟩ : S29)⟩ : S31)] : List (S31)) : List (S31))).bind fun y161 => (if y158.length + y161.length < 5864062014805 then ((some (([] : List (S31)) ++ t149 : List (S31))).bind fun y167 => ((some (([(⟨false, (⟨0, 0⟩ : S29)⟩ : S31)] : List (S31)) : List (S31))).bind fun y170 => (if y167.length + y170.length < 5864062014805 then ((vote_Most.f k (y167 ++ y170)).bind fun bt176 => (if (t155 == 0 && (t156 == 0)) = true then (if (bt176.1 == t155 && (bt176.2 == t156)) = true then (some true) else (some (bt176.1 == 0 && (bt176.2 == 0)))) else ((vote_Most.f k (y158 ++ y161)).bind fun bt179 => (if (bt179.1 == t155 && (bt179.2 == t156)) = true then (if (bt176.1 == t155 && (bt176.2 == t156)) = true then (some true) else (some (bt176.1 == 0 && (bt176.2 == 0)))) else (some false))))) else (none)))) else (none)))) else (none)) = some r := H
    have A5 := Aside0.mk A50
    clear A50
    by_cases c6 : ([] : List (S31)).length + t149.length < 5864062014805
    · rw [if_pos c6] at H
      have LMc6 := Aside0.mk c6
      clear c6
      obtain ⟨y158, hy158⟩ : ∃ y_ : List (S31), y_ = (([] : List (S31)) ++ t149) := ⟨_, rfl⟩
      replace H : ((some (([(⟨true, (⟨t155, t156⟩ : S29)⟩ : S31)] : List (S31)) : List (S31))).bind fun y161 => (if y158.length + y161.length < 5864062014805 then ((some (([] : List (S31)) ++ t149 : List (S31))).bind fun y167 => ((some (([(⟨false, (⟨0, 0⟩ : S29)⟩ : S31)] : List (S31)) : List (S31))).bind fun y170 => (if y167.length + y170.length < 5864062014805 then ((vote_Most.f k (y167 ++ y170)).bind fun bt176 => (if (t155 == 0 && (t156 == 0)) = true then (if (bt176.1 == t155 && (bt176.2 == t156)) = true then (some true) else (some (bt176.1 == 0 && (bt176.2 == 0)))) else ((vote_Most.f k (y158 ++ y161)).bind fun bt179 => (if (bt179.1 == t155 && (bt179.2 == t156)) = true then (if (bt176.1 == t155 && (bt176.2 == t156)) = true then (some true) else (some (bt176.1 == 0 && (bt176.2 == 0)))) else (some false))))) else (none)))) else (none))) = some r := by first | (rw [hy158]; with_reducible exact H) | (have H2_ := (Option.bind_some _ _).symm.trans H; rw [hy158]; with_reducible exact H2_) | (have H2_ := (Option.bind_some _ _).symm.trans H; with_reducible exact H2_) | with_reducible exact H | (rw [hy158]; exact H) | exact H
      have Ny158 := Aside0.mk hy158
      clear hy158
      obtain ⟨y161, hy161⟩ : ∃ y_ : List (S31), y_ = (([(⟨true, (⟨t155, t156⟩ : S29)⟩ : S31)] : List (S31))) := ⟨_, rfl⟩
      replace H : (if y158.length + y161.length < 5864062014805 then ((some (([] : List (S31)) ++ t149 : List (S31))).bind fun y167 => ((some (([(⟨false, (⟨0, 0⟩ : S29)⟩ : S31)] : List (S31)) : List (S31))).bind fun y170 => (if y167.length + y170.length < 5864062014805 then ((vote_Most.f k (y167 ++ y170)).bind fun bt176 => (if (t155 == 0 && (t156 == 0)) = true then (if (bt176.1 == t155 && (bt176.2 == t156)) = true then (some true) else (some (bt176.1 == 0 && (bt176.2 == 0)))) else ((vote_Most.f k (y158 ++ y161)).bind fun bt179 => (if (bt179.1 == t155 && (bt179.2 == t156)) = true then (if (bt176.1 == t155 && (bt176.2 == t156)) = true then (some true) else (some (bt176.1 == 0 && (bt176.2 == 0)))) else (some false))))) else (none)))) else (none)) = some r := by first | (rw [hy161]; with_reducible exact H) | (have H2_ := (Option.bind_some _ _).symm.trans H; rw [hy161]; with_reducible exact H2_) | (have H2_ := (Option.bind_some _ _).symm.trans H; with_reducible exact H2_) | with_reducible exact H | (rw [hy161]; exact H) | exact H
      have Ny161 := Aside0.mk hy161
      clear hy161
      by_cases c7 : y158.length + y161.length < 5864062014805
      · rw [if_pos c7] at H
        have LMc7 := Aside0.mk c7
        clear c7
        obtain ⟨y164, hy164⟩ : ∃ y_ : List (S31), y_ = (y158 ++ y161) := ⟨_, rfl⟩
        replace H : ((some (([] : List (S31)) ++ t149 : List (S31))).bind fun y167 => ((some (([(⟨false, (⟨0, 0⟩ : S29)⟩ : S31)] : List (S31)) : List (S31))).bind fun y170 => (if y167.length + y170.length < 5864062014805 then ((vote_Most.f k (y167 ++ y170)).bind fun bt176 => (if (t155 == 0 && (t156 == 0)) = true then (if (bt176.1 == t155 && (bt176.2 == t156)) = true then (some true) else (some (bt176.1 == 0 && (bt176.2 == 0)))) else ((vote_Most.f k y164).bind fun bt179 => (if (bt179.1 == t155 && (bt179.2 == t156)) = true then (if (bt176.1 == t155 && (bt176.2 == t156)) = true then (some true) else (some (bt176.1 == 0 && (bt176.2 == 0)))) else (some false))))) else (none)))) = some r := by first | (rw [hy164]; with_reducible exact H) | (have H2_ := (Option.bind_some _ _).symm.trans H; rw [hy164]; with_reducible exact H2_) | (have H2_ := (Option.bind_some _ _).symm.trans H; with_reducible exact H2_) | with_reducible exact H | (rw [hy164]; exact H) | exact H
        have Ny164 := Aside0.mk hy164
        clear hy164
        obtain ⟨y167, hy167⟩ : ∃ y_ : List (S31), y_ = (([] : List (S31)) ++ t149) := ⟨_, rfl⟩
        replace H : ((some (([(⟨false, (⟨0, 0⟩ : S29)⟩ : S31)] : List (S31)) : List (S31))).bind fun y170 => (if y167.length + y170.length < 5864062014805 then ((vote_Most.f k (y167 ++ y170)).bind fun bt176 => (if (t155 == 0 && (t156 == 0)) = true then (if (bt176.1 == t155 && (bt176.2 == t156)) = true then (some true) else (some (bt176.1 == 0 && (bt176.2 == 0)))) else ((vote_Most.f k y164).bind fun bt179 => (if (bt179.1 == t155 && (bt179.2 == t156)) = true then (if (bt176.1 == t155 && (bt176.2 == t156)) = true then (some true) else (some (bt176.1 == 0 && (bt176.2 == 0)))) else (some false))))) else (none))) = some r := by first | (rw [hy167]; with_reducible exact H) | (have H2_ := (Option.bind_some _ _).symm.trans H; rw [hy167]; with_reducible exact H2_) | (have H2_ := (Option.bind_some _ _).symm.trans H; with_reducible exact H2_) | with_reducible exact H | (rw [hy167]; exact H) | exact H
        have Ny167 := Aside0.mk hy167
        clear hy167
        obtain ⟨y170, hy170⟩ : ∃ y_ : List (S31), y_ = (([(⟨false, (⟨0, 0⟩ : S29)⟩ : S31)] : List (S31))) := ⟨_, rfl⟩
        replace H : (if y167.length + y170.length < 5864062014805 then ((vote_Most.f k (y167 ++ y170)).bind fun bt176 => (if (t155 == 0 && (t156 == 0)) = true then (if (bt176.1 == t155 && (bt176.2 == t156)) = true then (some true) else (some (bt176.1 == 0 && (bt176.2 == 0)))) else ((vote_Most.f k y164).bind fun bt179 => (if (bt179.1 == t155 && (bt179.2 == t156)) = true then (if (bt176.1 == t155 && (bt176.2 == t156)) = true then (some true) else (some (bt176.1 == 0 && (bt176.2 == 0)))) else (some false))))) else (none)) = some r := by first | (rw [hy170]; with_reducible exact H) | (have H2_ := (Option.bind_some _ _).symm.trans H; rw [hy170]; with_reducible exact H2_) | (have H2_ := (Option.bind_some _ _).symm.trans H; with_reducible exact H2_) | with_reducible exact H | (rw [hy170]; exact H) | exact H
        have Ny170 := Aside0.mk hy170
        clear hy170
        by_cases c8 : y167.length + y170.length < 5864062014805
        · rw [if_pos c8] at H
          have LMc8 := Aside0.mk c8
          clear c8
          obtain ⟨y173, hy173⟩ : ∃ y_ : List (S31), y_ = (y167 ++ y170) := ⟨_, rfl⟩
          replace H : ((vote_Most.f k y173).bind fun bt176 => (if (t155 == 0 && (t156 == 0)) = true then (if (bt176.1 == t155 && (bt176.2 == t156)) = true then (some true) else (some (bt176.1 == 0 && (bt176.2 == 0)))) else ((vote_Most.f k y164).bind fun bt179 => (if (bt179.1 == t155 && (bt179.2 == t156)) = true then (if (bt176.1 == t155 && (bt176.2 == t156)) = true then (some true) else (some (bt176.1 == 0 && (bt176.2 == 0)))) else (some false))))) = some r := by first | (rw [hy173]; with_reducible exact H) | (have H2_ := (Option.bind_some _ _).symm.trans H; rw [hy173]; with_reducible exact H2_) | (have H2_ := (Option.bind_some _ _).symm.trans H; with_reducible exact H2_) | with_reducible exact H | (rw [hy173]; exact H) | exact H
          have Ny173 := Aside0.mk hy173
          clear hy173
          replace H := Option.bind_eq_some_iff.mp H
          obtain ⟨⟨t176, t177⟩, A90, H⟩ := H
          replace H : (if (t155 == 0 && (t156 == 0)) = true then (if (t176 == t155 && (t177 == t156)) = true then (some true) else (some (t176 == 0 && (t177 == 0)))) else ((vote_Most.f k y164).bind fun bt179 => (if (bt179.1 == t155 && (bt179.2 == t156)) = true then (if (t176 == t155 && (t177 == t156)) = true then (some true) else (some (t176 == 0 && (t177 == 0)))) else (some false)))) = some r := H
          have A9 := Aside0.mk A90
          clear A90
          go_enter Try.func7, Try.ntmps7
          try go_wp2_with (first | ((with_reducible refine gate_callee (f := 9) rfl ?_); refine goesL_ (some 9) rfl rfl Try.func9 (by kernel_rfl) rfl #[] rfl (by (try simp only [List.map_toArray, List.map_cons, List.map_nil]); first | done | rfl | (simp only [List.length_drop, List.length_take]; rfl)) ?_; (with_reducible refine (plaitinglaw15_known.calls k  true _ A2.out).mono ?_); rintro e w12 ⟨rfl, hb⟩; refine ⟨_, rfl, ?_⟩; have n0_ := Aside0.mk (below_step (by repeat (first | (with_reducible first | exact HB.out | apply below_alloc | apply pw_below_drewN | apply below_drew1) | exact HB.out)) hb); clear HB; have HB := n0_; clear n0_; (try clear hb); (try clear hb2); (try clear hk); (try clear hi)) | ((with_reducible refine gate_callee (f := 10) rfl ?_); refine goesL_ (some 13) rfl rfl Try.func10 (by kernel_rfl) rfl #[.slice A0 l0.length c0] rfl (by (try simp only [List.map_toArray, List.map_cons, List.map_nil]); first | done | rfl | (simp only [List.length_drop, List.length_take]; rfl)) ?_; (with_reducible refine (plaitinglaw15_Row.calls k _ _ l0 t149 t150 _ ?side1 ?side2 A4.out).mono ?_); (case side1 => repeat (first | exact (Kd.C_below HR0.out HB.out) | (with_reducible refine Kd.C_alloc ?_ _) | (with_reducible refine Kd.C_drewN ?_ _) | (with_reducible refine Kd.C_drew ?_))); (case side2 => exact HC0.out); rintro e w13 ⟨v151, v153, rfl, ho0, ho1, hb⟩; refine ⟨_, rfl, ?_⟩; have n0_ := Aside0.mk (Kd.R_lower ho0 (below_size (by repeat (first | (with_reducible first | exact HB.out | apply below_alloc | apply pw_below_drewN | apply below_drew1) | exact HB.out)))); have n1_ := Aside0.mk (Kd.R_lower ho1 (below_size (by repeat (first | (with_reducible first | exact HB.out | apply below_alloc | apply pw_below_drewN | apply below_drew1) | exact HB.out)))); have n2_ := Aside0.mk (below_step (by repeat (first | (with_reducible first | exact HB.out | apply below_alloc | apply pw_below_drewN | apply below_drew1) | exact HB.out)) hb); clear HB; have HO152 := n0_; have HO154 := n1_; have HB := n2_; clear n0_ n1_ n2_; (try clear hb); (try clear hb2); (try clear hk); (try clear hi); (try clear ho0); (try clear ho1); obtain ⟨Ao14, co14, eo14⟩ := Kd.R_slice HO152.out; subst eo14) | ((with_reducible refine gate_callee (f := 12) rfl ?_); refine goesL_ (some 17) rfl rfl Try.func12 (by kernel_rfl) rfl #[.slice Ao14 t149.length co14] rfl (by (try simp only [List.map_toArray, List.map_cons, List.map_nil]); first | done | rfl | (simp only [List.length_drop, List.length_take]; rfl)) ?_; (with_reducible refine (vote_Most.calls k _ _ t149 t155 t156 _ ?side1 ?side2 A5.out).mono ?_); (case side1 => repeat (first | exact (Kd.R_reads' HO152.out).2.2 | (with_reducible refine Kd.C_alloc ?_ _) | (with_reducible refine Kd.C_drewN ?_ _) | (with_reducible refine Kd.C_drew ?_))); (case side2 => exact (Kd.R_reads' HO152.out).2.1); rintro e w15 ⟨rfl, hb⟩; refine ⟨_, rfl, ?_⟩; have n0_ := Aside0.mk (Kd.R_below (by (with_reducible repeat (first | apply Kd.R_alloc | apply Kd.R_drewN | apply Kd.R_drew)); exact HO152.out) hb); have n1_ := Aside0.mk (Kd.R_below (by (with_reducible repeat (first | apply Kd.R_alloc | apply Kd.R_drewN | apply Kd.R_drew)); exact HO154.out) hb); have n2_ := Aside0.mk (below_step (by repeat (first | (with_reducible first | exact HB.out | apply below_alloc | apply pw_below_drewN | apply below_drew1) | exact HB.out)) hb); clear HO152; clear HO154; clear HB; have HO152 := n0_; have HO154 := n1_; have HB := n2_; clear n0_ n1_ n2_; (try clear hb); (try clear hb2); (try clear hk); (try clear hi)) | ((with_reducible refine gate_dst (N := 5) rfl ?_); refine box_event ?hg (N := 5) ?hd (cs := #[.int .i64 0, .int .i64 0]) (t := 29) ?hr ?_; (case hd => rfl); (case hg => rfl); (case hr => first | (go_simp; done) | (go_simp; rfl)); intro gb157 hg w16 hbox hb; have n0_ := Aside0.mk (Kd.R_below (by (with_reducible repeat (first | apply Kd.R_alloc | apply Kd.R_drewN | apply Kd.R_drew)); exact HO152.out) hb); have n1_ := Aside0.mk (Kd.R_below (by (with_reducible repeat (first | apply Kd.R_alloc | apply Kd.R_drewN | apply Kd.R_drew)); exact HO154.out) hb); have n2_ := Aside0.mk (below_step (by repeat (first | (with_reducible first | exact HB.out | apply below_alloc | apply pw_below_drewN | apply below_drew1) | exact HB.out)) hb); have n3_ := Aside0.mk (hbox); have n4_ := Aside0.mk ((by rw [hg]; exact (below_size (by repeat (first | (with_reducible first | exact HB.out | apply below_alloc | apply pw_below_drewN | apply below_drew1) | exact HB.out))) : w.heap.size ≤ gb157)); have n5_ := Aside0.mk ((by rw [hg]; exact (below_size (by repeat (first | (with_reducible first | exact HB.out | apply below_alloc | apply pw_below_drewN | apply below_drew1) | exact HB.out))) : w.heap.size ≤ gb157)); clear HO152; clear HO154; clear HB; have HO152 := n0_; have HO154 := n1_; have HB := n2_; have BK157 := n3_; have GW157 := n4_; have GE157 := n5_; clear n0_ n1_ n2_ n3_ n4_ n5_; clear hb hbox hg; have hcz17_0 : w16.cell? ⟨gb157, 0, none⟩ = some (.int .i64 0) := (blk_cell BK157.out 0).trans rfl; have hcz17_1 : w16.cell? ⟨gb157, 1, none⟩ = some (.int .i64 0) := (blk_cell BK157.out 1).trans rfl; have hfz17_0 := blk_frozen BK157.out 0; have hfz17_1 := blk_frozen BK157.out 1))
          have n0_ : Aside0 (Kd.R k31 31 ((w16.setCell ⟨gb157, 0, none⟩ (.int .i64 t155)).setCell ⟨gb157, 1, none⟩ (.int .i64 t156)) w.heap.size (fun _ => True) (.slice Ao14 t149.length co14) t149) := ⟨by (with_reducible repeat (first | apply Kd.R_alloc | apply Kd.R_drewN | apply Kd.R_drew)); exact Kd.R_mono (Kd.R_far (p := ⟨gb157, 1, none⟩) (Kd.R_far (p := ⟨gb157, 0, none⟩) (Kd.R_types HO152.out BK157.out (by decide)) (fun _ hk => hk.2) (.int .i64 t155)) (fun _ hk => hk.2) (.int .i64 t156)) (fun _ hk => trivial)⟩
          have n1_ : Aside0 (Kd.R k44 44 ((w16.setCell ⟨gb157, 0, none⟩ (.int .i64 t155)).setCell ⟨gb157, 1, none⟩ (.int .i64 t156)) w.heap.size (fun _ => True) v153 t150) := ⟨by (with_reducible repeat (first | apply Kd.R_alloc | apply Kd.R_drewN | apply Kd.R_drew)); exact Kd.R_mono (Kd.R_far (p := ⟨gb157, 1, none⟩) (Kd.R_far (p := ⟨gb157, 0, none⟩) (Kd.R_types HO154.out BK157.out (by decide)) (fun _ hk => hk.2) (.int .i64 t155)) (fun _ hk => hk.2) (.int .i64 t156)) (fun _ hk => trivial)⟩
          have n2_ : Aside0 (((w16.setCell ⟨gb157, 0, none⟩ (.int .i64 t155)).setCell ⟨gb157, 1, none⟩ (.int .i64 t156)).heap[gb157]? = some (.cells #[.int .i64 t155, .int .i64 t156] 29 (0, 0))) := ⟨by (with_reducible repeat (first | refine blk_drewN ?_ _ | refine blk_drew ?_ | refine blk_alloc ?_ _)); refine blk_put (cs := #[.int .i64 t155, .int .i64 0]) ?_ 1 _ rfl; (with_reducible repeat (first | refine blk_drewN ?_ _ | refine blk_drew ?_ | refine blk_alloc ?_ _)); refine blk_put (cs := #[.int .i64 0, .int .i64 0]) ?_ 0 _ rfl; (with_reducible repeat (first | refine blk_drewN ?_ _ | refine blk_drew ?_ | refine blk_alloc ?_ _)); exact BK157.out⟩
          have n3_ : Aside0 (Below w.heap.size w ((w16.setCell ⟨gb157, 0, none⟩ (.int .i64 t155)).setCell ⟨gb157, 1, none⟩ (.int .i64 t156))) := ⟨by repeat (first | (with_reducible first | exact HB.out | apply below_alloc | apply pw_below_drewN | apply below_drew1 | refine below_set ?_ GE157.out) | exact HB.out)⟩
          (try clear HO152)
          (try clear HO154)
          (try clear BK157)
          (try clear HB)
          generalize ((w16.setCell ⟨gb157, 0, none⟩ (.int .i64 t155)).setCell ⟨gb157, 1, none⟩ (.int .i64 t156)) = w18 at n0_ n1_ n2_ n3_ ⊢
          have HO152 := n0_
          have HO154 := n1_
          have BK157 := n2_
          have HB := n3_
          clear n0_ n1_ n2_ n3_
          have n0_ := Aside0.mk (Kd.R_drew HO152.out)
          have n1_ := Aside0.mk (Kd.R_drew HO154.out)
          have n2_ := Aside0.mk (blk_drew BK157.out)
          have n3_ := Aside0.mk (below_drew1 HB.out)
          clear HO152
          clear HO154
          clear BK157
          clear HB
          have HO152 := n0_
          have HO154 := n1_
          have BK157 := n2_
          have HB := n3_
          clear n0_ n1_ n2_ n3_
          refine start_ (n := 15) (S := fun w' => w'.cell? ⟨gb157, 0, none⟩ = some (.int .i64 t155) ∧ w'.cell? ⟨gb157, 1, none⟩ = some (.int .i64 t156)) (ds := []) #[false, false, false, false, false, false, false, false, false, false, false, false, false, false, false] (by kernel_rfl) rfl rfl ⟨(blk_cell BK157.out 0).trans rfl, (blk_cell BK157.out 1).trans rfl⟩ (fun hHeld => ?_); refine with_tabW plaitinglaw15_VoteGrows.tab6 plaitinglaw15_VoteGrows.bits6 (fun HT_ HW_ => ?_)
          generalize w18.drew = w19 at HO152 HO154 BK157 HB hHeld ⊢
          refine pure_ (i := 0) (N := some 18) (v := ?_) (a' := ?_) #[true, false, false, false, false, false, false, false, false, false, false, false, false, false, false] rfl rfl (any_of HT_.out (by kernel_rfl)) (fun _ _ _ h => h) (Or.inl ⟨by rfl, ?_⟩) ?_ ?_
          rotate_left
          · intro w'
            go_simp
            with_reducible rfl
          rotate_left
          · simp only [Act.put, List.setIfInBounds_toArray, List.set_cons_zero, List.set_cons_succ, i64_w, i32_w]
            rfl
          refine pure_ (i := 1) (N := some 19) (v := ?_) (a' := ?_) #[true, true, false, false, false, false, false, false, false, false, false, false, false, false, false] rfl rfl (any_of HT_.out (by kernel_rfl)) (fun _ _ _ h => h) (Or.inl ⟨by rfl, ?_⟩) ?_ ?_
          rotate_left
          · intro w'
            go_simp
            with_reducible rfl
          rotate_left
          · simp only [Act.put, List.setIfInBounds_toArray, List.set_cons_zero, List.set_cons_succ, i64_w, i32_w]
            rfl
          refine pure_ (i := 7) (N := some 25) (v := ?_) (a' := ?_) #[true, true, false, false, false, false, false, true, false, false, false, false, false, false, false] rfl rfl (any_of HT_.out (by kernel_rfl)) (fun _ _ _ h => h) (Or.inl ⟨by rfl, ?_⟩) ?_ ?_
          rotate_left
          · intro w'
            go_simp
            with_reducible rfl
          rotate_left
          · simp only [Act.put, List.setIfInBounds_toArray, List.set_cons_zero, List.set_cons_succ, i64_w, i32_w]
            rfl
          refine pure_ (i := 8) (N := some 26) (v := ?_) (a' := ?_) #[true, true, false, false, false, false, false, true, true, false, false, false, false, false, false] rfl rfl (any_of HT_.out (by kernel_rfl)) (fun _ _ _ h => h) (Or.inl ⟨by rfl, ?_⟩) ?_ ?_
          rotate_left
          · intro w'
            go_simp
            with_reducible rfl
          rotate_left
          · simp only [Act.put, List.setIfInBounds_toArray, List.set_cons_zero, List.set_cons_succ, i64_w, i32_w]
            rfl
          refine pure_ (i := 10) (N := some 28) (v := ?_) (a' := ?_) #[true, true, false, false, false, false, false, true, true, false, true, false, false, false, false] rfl rfl (any_of HT_.out (by kernel_rfl)) (fun _ _ _ h => h) (Or.inl ⟨by rfl, ?_⟩) ?_ ?_
          rotate_left
          · intro w'
            go_simp
            with_reducible rfl
          rotate_left
          · simp only [Act.put, List.setIfInBounds_toArray, List.set_cons_zero, List.set_cons_succ, i64_w, i32_w]
            rfl
          refine take_ (i := 3) (N := some 21) (v := ?_) (a' := ?_) #[true, true, false, true, false, false, false, true, true, false, true, false, false, false, false] rfl rfl (take_ofW HT_.out HW_.out (by kernel_rfl)) (fun _ _ _ h => h) (Or.inl ⟨by rfl, ?_⟩) hHeld ?_ ?_
          rotate_left
          · rintro w' ⟨s0, s1⟩
            go_simp
            with_reducible rfl
          rotate_left
          · simp only [Act.put, List.setIfInBounds_toArray, List.set_cons_zero, List.set_cons_succ, i64_w, i32_w]
            rfl
          refine pure_ (i := 4) (N := some 22) (v := ?_) (a' := ?_) #[true, true, false, true, true, false, false, true, true, false, true, false, false, false, false] rfl rfl (any_of HT_.out (by kernel_rfl)) (fun _ _ _ h => h) (Or.inl ⟨by rfl, ?_⟩) ?_ ?_
          rotate_left
          · intro w'
            go_simp
            with_reducible rfl
          rotate_left
          · simp only [Act.put, List.setIfInBounds_toArray, List.set_cons_zero, List.set_cons_succ, i64_w, i32_w]
            rfl
          refine join_ (σ := Value × Value × Value × Value × Value) 3 #[true, true, true, true, true, true, true, true, true, true, true, true, false, false, false] (fun s_ => [(20, s_.1), (23, s_.2.1), (24, s_.2.2.1), (27, s_.2.2.2.1), (29, s_.2.2.2.2)]) (fun s_ w' => (w'.cell? ⟨gb157, 0, none⟩ = some (.int .i64 t155) ∧ w'.cell? ⟨gb157, 1, none⟩ = some (.int .i64 t156)) ∧ (Kd.R k31 31 w' w.heap.size (fun k_ => some k_ ≠ (s_.2.1 : Value).ownBlock ∧ some k_ ≠ (s_.2.2.1 : Value).ownBlock ∧ some k_ ≠ (s_.2.2.2.1 : Value).ownBlock ∧ some k_ ≠ (s_.2.2.2.2 : Value).ownBlock) (.slice Ao14 t149.length co14) t149) ∧ (Kd.R k44 44 w' w.heap.size (fun _ => True) v153 t150) ∧ (Kd.R k31 31 w' w.heap.size (fun k_ => some k_ ≠ (.slice Ao14 t149.length co14 : Value).ownBlock ∧ some k_ ≠ (s_.2.2.1 : Value).ownBlock ∧ some k_ ≠ (s_.2.2.2.1 : Value).ownBlock ∧ some k_ ≠ (s_.2.2.2.2 : Value).ownBlock) s_.2.1 y161) ∧ (Kd.R k31 31 w' w.heap.size (fun k_ => some k_ ≠ (.slice Ao14 t149.length co14 : Value).ownBlock ∧ some k_ ≠ (s_.2.1 : Value).ownBlock ∧ some k_ ≠ (s_.2.2.2.1 : Value).ownBlock ∧ some k_ ≠ (s_.2.2.2.2 : Value).ownBlock) s_.2.2.1 y164) ∧ (Kd.R k31 31 w' w.heap.size (fun k_ => some k_ ≠ (.slice Ao14 t149.length co14 : Value).ownBlock ∧ some k_ ≠ (s_.2.1 : Value).ownBlock ∧ some k_ ≠ (s_.2.2.1 : Value).ownBlock ∧ some k_ ≠ (s_.2.2.2.2 : Value).ownBlock) s_.2.2.2.1 y167) ∧ (Kd.R k31 31 w' w.heap.size (fun k_ => some k_ ≠ (.slice Ao14 t149.length co14 : Value).ownBlock ∧ some k_ ≠ (s_.2.1 : Value).ownBlock ∧ some k_ ≠ (s_.2.2.1 : Value).ownBlock ∧ some k_ ≠ (s_.2.2.2.1 : Value).ownBlock) s_.2.2.2.2 y170) ∧ (w'.heap[gb157]? = some (.cells #[.int .i64 t155, .int .i64 t156] 29 (0, 0))) ∧ (Below w.heap.size w w')) ?_ ?_
          rotate_left
          · intro hJ2_5_6_9_11
            refine join_ (σ := Value × Value × Value × Value) 4 #[true, true, true, true, true, true, true, true, true, true, true, false, false, false, false] (fun s_ => [(20, s_.1), (23, s_.2.1), (24, s_.2.2.1), (27, s_.2.2.2)]) (fun s_ w' => (w'.cell? ⟨gb157, 0, none⟩ = some (.int .i64 t155) ∧ w'.cell? ⟨gb157, 1, none⟩ = some (.int .i64 t156)) ∧ (Kd.R k31 31 w' w.heap.size (fun k_ => some k_ ≠ (s_.2.1 : Value).ownBlock ∧ some k_ ≠ (s_.2.2.1 : Value).ownBlock ∧ some k_ ≠ (s_.2.2.2 : Value).ownBlock) (.slice Ao14 t149.length co14) t149) ∧ (Kd.R k44 44 w' w.heap.size (fun _ => True) v153 t150) ∧ (Kd.R k31 31 w' w.heap.size (fun k_ => some k_ ≠ (.slice Ao14 t149.length co14 : Value).ownBlock ∧ some k_ ≠ (s_.2.2.1 : Value).ownBlock ∧ some k_ ≠ (s_.2.2.2 : Value).ownBlock) s_.2.1 y161) ∧ (Kd.R k31 31 w' w.heap.size (fun k_ => some k_ ≠ (.slice Ao14 t149.length co14 : Value).ownBlock ∧ some k_ ≠ (s_.2.1 : Value).ownBlock ∧ some k_ ≠ (s_.2.2.2 : Value).ownBlock) s_.2.2.1 y164) ∧ (Kd.R k31 31 w' w.heap.size (fun k_ => some k_ ≠ (.slice Ao14 t149.length co14 : Value).ownBlock ∧ some k_ ≠ (s_.2.1 : Value).ownBlock ∧ some k_ ≠ (s_.2.2.1 : Value).ownBlock) s_.2.2.2 y167) ∧ (w'.heap[gb157]? = some (.cells #[.int .i64 t155, .int .i64 t156] 29 (0, 0))) ∧ (Below w.heap.size w w')) ?_ ?_
            rotate_left
            · intro hJ2_5_6_9
              refine join_ (σ := Value × Value × Value × Value) 4 #[true, true, true, true, true, true, true, true, true, false, true, true, false, false, false] (fun s_ => [(20, s_.1), (23, s_.2.1), (24, s_.2.2.1), (29, s_.2.2.2)]) (fun s_ w' => (w'.cell? ⟨gb157, 0, none⟩ = some (.int .i64 t155) ∧ w'.cell? ⟨gb157, 1, none⟩ = some (.int .i64 t156)) ∧ (Kd.R k31 31 w' w.heap.size (fun k_ => some k_ ≠ (s_.2.1 : Value).ownBlock ∧ some k_ ≠ (s_.2.2.1 : Value).ownBlock ∧ some k_ ≠ (s_.2.2.2 : Value).ownBlock) (.slice Ao14 t149.length co14) t149) ∧ (Kd.R k44 44 w' w.heap.size (fun _ => True) v153 t150) ∧ (Kd.R k31 31 w' w.heap.size (fun k_ => some k_ ≠ (.slice Ao14 t149.length co14 : Value).ownBlock ∧ some k_ ≠ (s_.2.2.1 : Value).ownBlock ∧ some k_ ≠ (s_.2.2.2 : Value).ownBlock) s_.2.1 y161) ∧ (Kd.R k31 31 w' w.heap.size (fun k_ => some k_ ≠ (.slice Ao14 t149.length co14 : Value).ownBlock ∧ some k_ ≠ (s_.2.1 : Value).ownBlock ∧ some k_ ≠ (s_.2.2.2 : Value).ownBlock) s_.2.2.1 y164) ∧ (Kd.R k31 31 w' w.heap.size (fun k_ => some k_ ≠ (.slice Ao14 t149.length co14 : Value).ownBlock ∧ some k_ ≠ (s_.2.1 : Value).ownBlock ∧ some k_ ≠ (s_.2.2.1 : Value).ownBlock) s_.2.2.2 y170) ∧ (w'.heap[gb157]? = some (.cells #[.int .i64 t155, .int .i64 t156] 29 (0, 0))) ∧ (Below w.heap.size w w')) ?_ ?_
              rotate_left
              · intro hJ2_5_6_11
                refine join_ (σ := Value × Value × Value) 5 #[true, true, true, true, true, true, true, true, true, false, true, false, false, false, false] (fun s_ => [(20, s_.1), (23, s_.2.1), (24, s_.2.2)]) (fun s_ w' => (w'.cell? ⟨gb157, 0, none⟩ = some (.int .i64 t155) ∧ w'.cell? ⟨gb157, 1, none⟩ = some (.int .i64 t156)) ∧ (Kd.R k31 31 w' w.heap.size (fun k_ => some k_ ≠ (s_.2.1 : Value).ownBlock ∧ some k_ ≠ (s_.2.2 : Value).ownBlock) (.slice Ao14 t149.length co14) t149) ∧ (Kd.R k44 44 w' w.heap.size (fun _ => True) v153 t150) ∧ (Kd.R k31 31 w' w.heap.size (fun k_ => some k_ ≠ (.slice Ao14 t149.length co14 : Value).ownBlock ∧ some k_ ≠ (s_.2.2 : Value).ownBlock) s_.2.1 y161) ∧ (Kd.R k31 31 w' w.heap.size (fun k_ => some k_ ≠ (.slice Ao14 t149.length co14 : Value).ownBlock ∧ some k_ ≠ (s_.2.1 : Value).ownBlock) s_.2.2 y164) ∧ (w'.heap[gb157]? = some (.cells #[.int .i64 t155, .int .i64 t156] 29 (0, 0))) ∧ (Below w.heap.size w w')) ?_ ?_
                rotate_left
                · intro hJ2_5_6
                  refine join_ (σ := Value × Value × Value) 5 #[true, true, true, true, true, true, false, true, true, false, true, true, false, false, false] (fun s_ => [(20, s_.1), (23, s_.2.1), (29, s_.2.2)]) (fun s_ w' => (w'.cell? ⟨gb157, 0, none⟩ = some (.int .i64 t155) ∧ w'.cell? ⟨gb157, 1, none⟩ = some (.int .i64 t156)) ∧ (Kd.R k31 31 w' w.heap.size (fun k_ => some k_ ≠ (s_.1 : Value).ownBlock ∧ some k_ ≠ (s_.2.1 : Value).ownBlock ∧ some k_ ≠ (s_.2.2 : Value).ownBlock) (.slice Ao14 t149.length co14) t149) ∧ (Kd.R k44 44 w' w.heap.size (fun _ => True) v153 t150) ∧ (Kd.R k31 31 w' w.heap.size (fun k_ => some k_ ≠ (.slice Ao14 t149.length co14 : Value).ownBlock ∧ some k_ ≠ (s_.2.1 : Value).ownBlock ∧ some k_ ≠ (s_.2.2 : Value).ownBlock) s_.1 y158) ∧ (Kd.R k31 31 w' w.heap.size (fun k_ => some k_ ≠ (.slice Ao14 t149.length co14 : Value).ownBlock ∧ some k_ ≠ (s_.1 : Value).ownBlock ∧ some k_ ≠ (s_.2.2 : Value).ownBlock) s_.2.1 y161) ∧ (Kd.R k31 31 w' w.heap.size (fun k_ => some k_ ≠ (.slice Ao14 t149.length co14 : Value).ownBlock ∧ some k_ ≠ (s_.1 : Value).ownBlock ∧ some k_ ≠ (s_.2.1 : Value).ownBlock) s_.2.2 y170) ∧ (w'.heap[gb157]? = some (.cells #[.int .i64 t155, .int .i64 t156] 29 (0, 0))) ∧ (Below w.heap.size w w')) ?_ ?_
                  rotate_left
                  · intro hJ2_5_11
                    refine join_ (σ := Value × Value) 6 #[true, true, true, true, true, true, false, true, true, false, true, false, false, false, false] (fun s_ => [(20, s_.1), (23, s_.2)]) (fun s_ w' => (w'.cell? ⟨gb157, 0, none⟩ = some (.int .i64 t155) ∧ w'.cell? ⟨gb157, 1, none⟩ = some (.int .i64 t156)) ∧ (Kd.R k31 31 w' w.heap.size (fun k_ => some k_ ≠ (s_.1 : Value).ownBlock ∧ some k_ ≠ (s_.2 : Value).ownBlock) (.slice Ao14 t149.length co14) t149) ∧ (Kd.R k44 44 w' w.heap.size (fun _ => True) v153 t150) ∧ (Kd.R k31 31 w' w.heap.size (fun k_ => some k_ ≠ (.slice Ao14 t149.length co14 : Value).ownBlock ∧ some k_ ≠ (s_.2 : Value).ownBlock) s_.1 y158) ∧ (Kd.R k31 31 w' w.heap.size (fun k_ => some k_ ≠ (.slice Ao14 t149.length co14 : Value).ownBlock ∧ some k_ ≠ (s_.1 : Value).ownBlock) s_.2 y161) ∧ (w'.heap[gb157]? = some (.cells #[.int .i64 t155, .int .i64 t156] 29 (0, 0))) ∧ (Below w.heap.size w w')) ?_ ?_
                    rotate_left
                    · intro hJ2_5
                      refine join_ (σ := Value × Value) 6 #[true, true, true, true, true, false, false, true, true, false, true, true, false, false, false] (fun s_ => [(20, s_.1), (29, s_.2)]) (fun s_ w' => (w'.cell? ⟨gb157, 0, none⟩ = some (.int .i64 t155) ∧ w'.cell? ⟨gb157, 1, none⟩ = some (.int .i64 t156)) ∧ (Kd.R k31 31 w' w.heap.size (fun k_ => some k_ ≠ (s_.1 : Value).ownBlock ∧ some k_ ≠ (s_.2 : Value).ownBlock) (.slice Ao14 t149.length co14) t149) ∧ (Kd.R k44 44 w' w.heap.size (fun _ => True) v153 t150) ∧ (Kd.R k31 31 w' w.heap.size (fun k_ => some k_ ≠ (.slice Ao14 t149.length co14 : Value).ownBlock ∧ some k_ ≠ (s_.2 : Value).ownBlock) s_.1 y158) ∧ (Kd.R k31 31 w' w.heap.size (fun k_ => some k_ ≠ (.slice Ao14 t149.length co14 : Value).ownBlock ∧ some k_ ≠ (s_.1 : Value).ownBlock) s_.2 y170) ∧ (w'.heap[gb157]? = some (.cells #[.int .i64 t155, .int .i64 t156] 29 (0, 0))) ∧ (Below w.heap.size w w')) ?_ ?_
                      rotate_left
                      · intro hJ2_11
                        refine join_ (σ := Value × Value) 6 #[true, true, false, true, true, true, false, true, true, false, true, true, false, false, false] (fun s_ => [(23, s_.1), (29, s_.2)]) (fun s_ w' => (w'.cell? ⟨gb157, 0, none⟩ = some (.int .i64 t155) ∧ w'.cell? ⟨gb157, 1, none⟩ = some (.int .i64 t156)) ∧ (Kd.R k31 31 w' w.heap.size (fun k_ => some k_ ≠ (s_.1 : Value).ownBlock ∧ some k_ ≠ (s_.2 : Value).ownBlock) (.slice Ao14 t149.length co14) t149) ∧ (Kd.R k44 44 w' w.heap.size (fun _ => True) v153 t150) ∧ (Kd.R k31 31 w' w.heap.size (fun k_ => some k_ ≠ (.slice Ao14 t149.length co14 : Value).ownBlock ∧ some k_ ≠ (s_.2 : Value).ownBlock) s_.1 y161) ∧ (Kd.R k31 31 w' w.heap.size (fun k_ => some k_ ≠ (.slice Ao14 t149.length co14 : Value).ownBlock ∧ some k_ ≠ (s_.1 : Value).ownBlock) s_.2 y170) ∧ (w'.heap[gb157]? = some (.cells #[.int .i64 t155, .int .i64 t156] 29 (0, 0))) ∧ (Below w.heap.size w w')) ?_ ?_
                        rotate_left
                        · intro hJ5_11
                          refine join_ (σ := Value) 7 #[true, true, true, true, true, false, false, true, true, false, true, false, false, false, false] (fun s_ => [(20, s_)]) (fun s_ w' => (w'.cell? ⟨gb157, 0, none⟩ = some (.int .i64 t155) ∧ w'.cell? ⟨gb157, 1, none⟩ = some (.int .i64 t156)) ∧ (Kd.R k31 31 w' w.heap.size (fun k_ => some k_ ≠ (s_ : Value).ownBlock) (.slice Ao14 t149.length co14) t149) ∧ (Kd.R k44 44 w' w.heap.size (fun _ => True) v153 t150) ∧ (Kd.R k31 31 w' w.heap.size (fun k_ => some k_ ≠ (.slice Ao14 t149.length co14 : Value).ownBlock) s_ y158) ∧ (w'.heap[gb157]? = some (.cells #[.int .i64 t155, .int .i64 t156] 29 (0, 0))) ∧ (Below w.heap.size w w')) ?_ ?_
                          rotate_left
                          · intro hJ2
                            refine join_ (σ := Value) 7 #[true, true, false, true, true, true, false, true, true, false, true, false, false, false, false] (fun s_ => [(23, s_)]) (fun s_ w' => (w'.cell? ⟨gb157, 0, none⟩ = some (.int .i64 t155) ∧ w'.cell? ⟨gb157, 1, none⟩ = some (.int .i64 t156)) ∧ (Kd.R k31 31 w' w.heap.size (fun k_ => some k_ ≠ (s_ : Value).ownBlock) (.slice Ao14 t149.length co14) t149) ∧ (Kd.R k44 44 w' w.heap.size (fun _ => True) v153 t150) ∧ (Kd.R k31 31 w' w.heap.size (fun k_ => some k_ ≠ (.slice Ao14 t149.length co14 : Value).ownBlock) s_ y161) ∧ (w'.heap[gb157]? = some (.cells #[.int .i64 t155, .int .i64 t156] 29 (0, 0))) ∧ (Below w.heap.size w w')) ?_ ?_
                            rotate_left
                            · intro hJ5
                              refine join_ (σ := Value) 7 #[true, true, false, true, true, false, false, true, true, false, true, true, false, false, false] (fun s_ => [(29, s_)]) (fun s_ w' => (w'.cell? ⟨gb157, 0, none⟩ = some (.int .i64 t155) ∧ w'.cell? ⟨gb157, 1, none⟩ = some (.int .i64 t156)) ∧ (Kd.R k31 31 w' w.heap.size (fun k_ => some k_ ≠ (s_ : Value).ownBlock) (.slice Ao14 t149.length co14) t149) ∧ (Kd.R k44 44 w' w.heap.size (fun _ => True) v153 t150) ∧ (Kd.R k31 31 w' w.heap.size (fun k_ => some k_ ≠ (.slice Ao14 t149.length co14 : Value).ownBlock) s_ y170) ∧ (w'.heap[gb157]? = some (.cells #[.int .i64 t155, .int .i64 t156] 29 (0, 0))) ∧ (Below w.heap.size w w')) ?_ ?_
                              rotate_left
                              · intro hJ11
                                refine three_ (i := 2) (j := 5) (k := 11) (Ni := some 20) (Nj := some 23) (Nk := some 29) #[true, true, true, true, true, false, false, true, true, false, true, false, false, false, false] #[true, true, false, true, true, true, false, true, true, false, true, false, false, false, false] #[true, true, false, true, true, false, false, true, true, false, true, true, false, false, false] rfl rfl rfl rfl rfl rfl (three_of HT_.out (by kernel_rfl)) (by decide) (by decide) (by decide) (fun K hK => ?_) (fun K hK => ?_) (fun K hK => ?_)
                                · skip
                                  refine Kd.R_append_rows_step k31 (w0 := w) w.heap.size (by rfl) (.tmp 18) (.tmp 19) 24 31 (.agg #[(.bool false), (.int .i64 0), (.int .i64 0)]) 24 rfl Try.underlying24 info31 rfl (by decide) (by omega) (.slice none 0 0) ([] : List (S31)) t149 _ _ _ (fun k_ => some k_ ≠ (.slice Ao14 t149.length co14 : Value).ownBlock) (fun _ => False) rfl rfl ?aO ?aR (fun _ _ h => h) (fun _ h => h.elim) ?aF ?aB ?aS ?aL ?_
                                  (case aR => repeat (first | exact (Kd.R_reads' HO152.out).2.2 | (with_reducible refine Kd.C_alloc ?_ _) | (with_reducible refine Kd.C_drewN ?_ _) | (with_reducible refine Kd.C_drew ?_)))
                                  (case aB => exact (by repeat (first | (with_reducible first | exact HB.out | apply below_alloc | apply pw_below_drewN | apply below_drew1 | refine below_set ?_ GE157.out) | exact HB.out)))
                                  (case aF => exact (fun k_ hk => Kd.fresh' (Kd.R_lt (by (with_reducible repeat (first | apply Kd.R_alloc | apply Kd.R_drewN | apply Kd.R_drew)); exact HO152.out)) k_ hk))
                                  (case aO => exact ((Kd.R_nil _ _ _ _ (fun k_ => some k_ ≠ (.slice Ao14 t149.length co14 : Value).ownBlock))))
                                  (case aS => exact (below_size (by repeat (first | (with_reducible first | exact HB.out | apply below_alloc | apply pw_below_drewN | apply below_drew1 | refine below_set ?_ GE157.out) | exact HB.out))))
                                  (case aL => have := LMc6.out; omega)
                                  intro v159 w20 ho hb hg hat
                                  rw [← Ny158.out] at ho
                                  have n0_ := Aside0.mk (Kd.R_after (Kd.R_apart_nil (by (with_reducible repeat (first | apply Kd.R_alloc | apply Kd.R_drewN | apply Kd.R_drew)); exact HO152.out)) hg hat)
                                  have n1_ := Aside0.mk (Kd.R_grown (by (with_reducible repeat (first | apply Kd.R_alloc | apply Kd.R_drewN | apply Kd.R_drew)); exact HO154.out) hg (fun _ _ => by simp [Value.ownBlock]))
                                  have n2_ := Aside0.mk (blk_grown (g := gb157) (o := .cells #[.int .i64 t155, .int .i64 t156] 29 (0, 0)) (by (with_reducible repeat (first | refine blk_drewN ?_ _ | refine blk_drew ?_ | refine blk_alloc ?_ _)); exact BK157.out) hg (by simp [Value.ownBlock]))
                                  have n3_ := Aside0.mk (hb)
                                  have n4_ := Aside0.mk (ho)
                                  clear HO152
                                  clear HO154
                                  clear BK157
                                  clear HB
                                  have HO152 := n0_
                                  have HO154 := n1_
                                  have BK157 := n2_
                                  have HB := n3_
                                  have HO160 := n4_
                                  clear n0_ n1_ n2_ n3_ n4_
                                  clear ho hb hg hat
                                  refine hK.out _ _ ⟨(blk_cell BK157.out 0).trans rfl, (blk_cell BK157.out 1).trans rfl⟩ (fun hHeld => ?_)
                                  clear hK K
                                  refine norm_ (a' := ?_) ?_ ?_
                                  rotate_left
                                  · show Act.put _ (some 20) _ = _
                                    simp only [Act.put, List.setIfInBounds_toArray, List.set_cons_zero, List.set_cons_succ, i64_w, i32_w]
                                    rfl
                                  exact norm_ (by first | (simp only [putAll, Act.put, List.setIfInBounds_toArray, List.set_cons_zero, List.set_cons_succ]; done) | (simp only [putAll, Act.put, List.setIfInBounds_toArray, List.set_cons_zero, List.set_cons_succ]; rfl)) (hJ2 (v159) _ ⟨hHeld, (by (with_reducible repeat (first | apply Kd.R_alloc | apply Kd.R_drewN | apply Kd.R_drew)); exact Kd.R_mono HO152.out (fun _ hk => hk.2)), (by (with_reducible repeat (first | apply Kd.R_alloc | apply Kd.R_drewN | apply Kd.R_drew)); exact HO154.out), (by (with_reducible repeat (first | apply Kd.R_alloc | apply Kd.R_drewN | apply Kd.R_drew)); exact HO160.out), (by (with_reducible repeat (first | refine blk_drewN ?_ _ | refine blk_drew ?_ | refine blk_alloc ?_ _)); exact BK157.out), (by repeat (first | (with_reducible first | exact HB.out | apply below_alloc | apply pw_below_drewN | apply below_drew1 | refine below_set ?_ GE157.out) | exact HB.out))⟩)
                                · skip
                                  refine Kd.R_lit_step k31 _ 31 ?hg (N := 23) ?hd (xs := ([(⟨true, (⟨t155, t156⟩ : S29)⟩ : S31)] : List (S31))) (inner := [.bool true, .int .i64 t155, .int .i64 t156]) (ok := fun _ => True) (okp := fun _ => True) ?hr ?hp (fun _ hk => hk) trivial (Below.refl _ _) (Nat.le_refl _) (by simp) ?_; (case hd => rfl); (case hg => rfl); (case hr => first | (go_simp; done) | (go_simp; rfl)); (case hp => exact (Reps.c3 (show Kd.M k31 _ _ _ (⟨true, (⟨t155, t156⟩ : S29)⟩ : S31) [.bool true, .int .i64 t155, .int .i64 t156] from (k31_mkM _ _ _ (⟨true, (⟨t155, t156⟩ : S29)⟩ : S31) )) (Reps.none _ _)))
                                  intro v162 w20 ho21 hb hg_ hnew_
                                  clear hg_ hnew_
                                  (first | rw [← Ny161.out] at ho21 | (simp only [Int.reduceToNat] at ho21; rw [← Ny161.out] at ho21))
                                  have n0_ := Aside0.mk (Kd.R_elder' (by (with_reducible repeat (first | apply Kd.R_alloc | apply Kd.R_drewN | apply Kd.R_drew)); exact HO152.out) (Kd.R_base ho21) hb)
                                  have n1_ := Aside0.mk (Kd.R_below (by (with_reducible repeat (first | apply Kd.R_alloc | apply Kd.R_drewN | apply Kd.R_drew)); exact HO154.out) hb)
                                  have n2_ := Aside0.mk (Kd.R_lower (Kd.R_new' ho21 (Kd.R_lt (by (with_reducible repeat (first | apply Kd.R_alloc | apply Kd.R_drewN | apply Kd.R_drew)); exact HO152.out))) (below_size (by repeat (first | (with_reducible first | exact HB.out | apply below_alloc | apply pw_below_drewN | apply below_drew1 | refine below_set ?_ GE157.out) | exact HB.out))))
                                  have n3_ := Aside0.mk (blk_below (g := gb157) (o := .cells #[.int .i64 t155, .int .i64 t156] 29 (0, 0)) (by (with_reducible repeat (first | refine blk_drewN ?_ _ | refine blk_drew ?_ | refine blk_alloc ?_ _)); exact BK157.out) hb)
                                  have n4_ := Aside0.mk (below_step (by repeat (first | (with_reducible first | exact HB.out | apply below_alloc | apply pw_below_drewN | apply below_drew1 | refine below_set ?_ GE157.out) | exact HB.out)) hb)
                                  clear HO152
                                  clear HO154
                                  clear BK157
                                  clear HB
                                  have HO152 := n0_
                                  have HO154 := n1_
                                  have HO163 := n2_
                                  have BK157 := n3_
                                  have HB := n4_
                                  clear n0_ n1_ n2_ n3_ n4_
                                  clear hb ho21
                                  refine hK.out _ _ ⟨(blk_cell BK157.out 0).trans rfl, (blk_cell BK157.out 1).trans rfl⟩ (fun hHeld => ?_)
                                  clear hK K
                                  refine norm_ (a' := ?_) ?_ ?_
                                  rotate_left
                                  · show Act.put _ (some 23) _ = _
                                    simp only [Act.put, List.setIfInBounds_toArray, List.set_cons_zero, List.set_cons_succ, i64_w, i32_w]
                                    rfl
                                  exact norm_ (by first | (simp only [putAll, Act.put, List.setIfInBounds_toArray, List.set_cons_zero, List.set_cons_succ]; done) | (simp only [putAll, Act.put, List.setIfInBounds_toArray, List.set_cons_zero, List.set_cons_succ]; rfl)) (hJ5 (v162) _ ⟨hHeld, (by (with_reducible repeat (first | apply Kd.R_alloc | apply Kd.R_drewN | apply Kd.R_drew)); exact Kd.R_mono HO152.out (fun _ hk => hk.2)), (by (with_reducible repeat (first | apply Kd.R_alloc | apply Kd.R_drewN | apply Kd.R_drew)); exact HO154.out), (by (with_reducible repeat (first | apply Kd.R_alloc | apply Kd.R_drewN | apply Kd.R_drew)); exact Kd.R_mono HO163.out (fun _ hk => hk.2)), (by (with_reducible repeat (first | refine blk_drewN ?_ _ | refine blk_drew ?_ | refine blk_alloc ?_ _)); exact BK157.out), (by repeat (first | (with_reducible first | exact HB.out | apply below_alloc | apply pw_below_drewN | apply below_drew1 | refine below_set ?_ GE157.out) | exact HB.out))⟩)
                                · skip
                                  refine Kd.R_lit_step k31 _ 31 ?hg (N := 29) ?hd (xs := ([(⟨false, (⟨0, 0⟩ : S29)⟩ : S31)] : List (S31))) (inner := [.bool false, .int .i64 0, .int .i64 0]) (ok := fun _ => True) (okp := fun _ => True) ?hr ?hp (fun _ hk => hk) trivial (Below.refl _ _) (Nat.le_refl _) (by simp) ?_; (case hd => rfl); (case hg => rfl); (case hr => first | (go_simp; done) | (go_simp; rfl)); (case hp => exact (Reps.c3 (show Kd.M k31 _ _ _ (⟨false, (⟨0, 0⟩ : S29)⟩ : S31) [.bool false, .int .i64 0, .int .i64 0] from (k31_mkM _ _ _ (⟨false, (⟨0, 0⟩ : S29)⟩ : S31) )) (Reps.none _ _)))
                                  intro v171 w20 ho21 hb hg_ hnew_
                                  clear hg_ hnew_
                                  (first | rw [← Ny170.out] at ho21 | (simp only [Int.reduceToNat] at ho21; rw [← Ny170.out] at ho21))
                                  have n0_ := Aside0.mk (Kd.R_elder' (by (with_reducible repeat (first | apply Kd.R_alloc | apply Kd.R_drewN | apply Kd.R_drew)); exact HO152.out) (Kd.R_base ho21) hb)
                                  have n1_ := Aside0.mk (Kd.R_below (by (with_reducible repeat (first | apply Kd.R_alloc | apply Kd.R_drewN | apply Kd.R_drew)); exact HO154.out) hb)
                                  have n2_ := Aside0.mk (Kd.R_lower (Kd.R_new' ho21 (Kd.R_lt (by (with_reducible repeat (first | apply Kd.R_alloc | apply Kd.R_drewN | apply Kd.R_drew)); exact HO152.out))) (below_size (by repeat (first | (with_reducible first | exact HB.out | apply below_alloc | apply pw_below_drewN | apply below_drew1 | refine below_set ?_ GE157.out) | exact HB.out))))
                                  have n3_ := Aside0.mk (blk_below (g := gb157) (o := .cells #[.int .i64 t155, .int .i64 t156] 29 (0, 0)) (by (with_reducible repeat (first | refine blk_drewN ?_ _ | refine blk_drew ?_ | refine blk_alloc ?_ _)); exact BK157.out) hb)
                                  have n4_ := Aside0.mk (below_step (by repeat (first | (with_reducible first | exact HB.out | apply below_alloc | apply pw_below_drewN | apply below_drew1 | refine below_set ?_ GE157.out) | exact HB.out)) hb)
                                  clear HO152
                                  clear HO154
                                  clear BK157
                                  clear HB
                                  have HO152 := n0_
                                  have HO154 := n1_
                                  have HO172 := n2_
                                  have BK157 := n3_
                                  have HB := n4_
                                  clear n0_ n1_ n2_ n3_ n4_
                                  clear hb ho21
                                  refine hK.out _ _ ⟨(blk_cell BK157.out 0).trans rfl, (blk_cell BK157.out 1).trans rfl⟩ (fun hHeld => ?_)
                                  clear hK K
                                  refine norm_ (a' := ?_) ?_ ?_
                                  rotate_left
                                  · show Act.put _ (some 29) _ = _
                                    simp only [Act.put, List.setIfInBounds_toArray, List.set_cons_zero, List.set_cons_succ, i64_w, i32_w]
                                    rfl
                                  exact norm_ (by first | (simp only [putAll, Act.put, List.setIfInBounds_toArray, List.set_cons_zero, List.set_cons_succ]; done) | (simp only [putAll, Act.put, List.setIfInBounds_toArray, List.set_cons_zero, List.set_cons_succ]; rfl)) (hJ11 (v171) _ ⟨hHeld, (by (with_reducible repeat (first | apply Kd.R_alloc | apply Kd.R_drewN | apply Kd.R_drew)); exact Kd.R_mono HO152.out (fun _ hk => hk.2)), (by (with_reducible repeat (first | apply Kd.R_alloc | apply Kd.R_drewN | apply Kd.R_drew)); exact HO154.out), (by (with_reducible repeat (first | apply Kd.R_alloc | apply Kd.R_drewN | apply Kd.R_drew)); exact Kd.R_mono HO172.out (fun _ hk => hk.2)), (by (with_reducible repeat (first | refine blk_drewN ?_ _ | refine blk_drew ?_ | refine blk_alloc ?_ _)); exact BK157.out), (by repeat (first | (with_reducible first | exact HB.out | apply below_alloc | apply pw_below_drewN | apply below_drew1 | refine below_set ?_ GE157.out) | exact HB.out))⟩)
                              · skip
                                rintro v171 w22 ⟨hS_, h0_, h1_, h2_, h3_, h4_⟩
                                have n0_ : Aside0 (Kd.R k31 31 w22 w.heap.size (fun k_ => some k_ ≠ (v171 : Value).ownBlock) (.slice Ao14 t149.length co14) t149) := ⟨h0_⟩
                                have n1_ : Aside0 (Kd.R k44 44 w22 w.heap.size (fun _ => True) v153 t150) := ⟨h1_⟩
                                have n2_ : Aside0 (Kd.R k31 31 w22 w.heap.size (fun k_ => some k_ ≠ (.slice Ao14 t149.length co14 : Value).ownBlock) v171 y170) := ⟨h2_⟩
                                have n3_ : Aside0 (w22.heap[gb157]? = some (.cells #[.int .i64 t155, .int .i64 t156] 29 (0, 0))) := ⟨h3_⟩
                                have n4_ : Aside0 (Below w.heap.size w w22) := ⟨h4_⟩
                                clear HO152
                                clear HO154
                                clear BK157
                                clear HB
                                clear h0_ h1_ h2_ h3_ h4_
                                have HO152 := n0_
                                have HO154 := n1_
                                have HO172 := n2_
                                have BK157 := n3_
                                have HB := n4_
                                clear n0_ n1_ n2_ n3_ n4_
                                have hHeld : w22.cell? ⟨gb157, 0, none⟩ = some (.int .i64 t155) ∧ w22.cell? ⟨gb157, 1, none⟩ = some (.int .i64 t156) := hS_
                                refine norm_ (a' := ?_) ?_ ?_
                                rotate_left
                                · simp only [putAll, Act.put, List.setIfInBounds_toArray, List.set_cons_zero, List.set_cons_succ]
                                  rfl
                                refine two_ (i := 2) (j := 5) (Ni := some 20) (Nj := some 23) #[true, true, true, true, true, false, false, true, true, false, true, true, false, false, false] #[true, true, false, true, true, true, false, true, true, false, true, true, false, false, false] rfl rfl rfl rfl (two_of HT_.out (by kernel_rfl)) (by decide) (by decide) (fun K hK => ?_) (fun K hK => ?_)
                                · skip
                                  refine Kd.R_append_rows_step k31 (w0 := w) w.heap.size (by rfl) (.tmp 18) (.tmp 19) 24 31 (.agg #[(.bool false), (.int .i64 0), (.int .i64 0)]) 24 rfl Try.underlying24 info31 rfl (by decide) (by omega) (.slice none 0 0) ([] : List (S31)) t149 _ _ _ (fun k_ => some k_ ≠ (.slice Ao14 t149.length co14 : Value).ownBlock ∧ some k_ ≠ (v171 : Value).ownBlock) (fun _ => False) rfl rfl ?aO ?aR (fun _ _ h => h) (fun _ h => h.elim) ?aF ?aB ?aS ?aL ?_
                                  (case aR => repeat (first | exact (Kd.R_reads' HO152.out).2.2 | (with_reducible refine Kd.C_alloc ?_ _) | (with_reducible refine Kd.C_drewN ?_ _) | (with_reducible refine Kd.C_drew ?_)))
                                  (case aB => exact (by repeat (first | (with_reducible first | exact HB.out | apply below_alloc | apply pw_below_drewN | apply below_drew1 | refine below_set ?_ GE157.out) | exact HB.out)))
                                  (case aF => exact (fun k_ hk => ⟨Kd.fresh' (Kd.R_lt (by (with_reducible repeat (first | apply Kd.R_alloc | apply Kd.R_drewN | apply Kd.R_drew)); exact HO152.out)) k_ hk, Kd.fresh' (Kd.R_lt (by (with_reducible repeat (first | apply Kd.R_alloc | apply Kd.R_drewN | apply Kd.R_drew)); exact HO172.out)) k_ hk⟩))
                                  (case aO => exact ((Kd.R_nil _ _ _ _ (fun k_ => some k_ ≠ (.slice Ao14 t149.length co14 : Value).ownBlock ∧ some k_ ≠ (v171 : Value).ownBlock))))
                                  (case aS => exact (below_size (by repeat (first | (with_reducible first | exact HB.out | apply below_alloc | apply pw_below_drewN | apply below_drew1 | refine below_set ?_ GE157.out) | exact HB.out))))
                                  (case aL => have := LMc6.out; omega)
                                  intro v159 w23 ho hb hg hat
                                  rw [← Ny158.out] at ho
                                  have n0_ := Aside0.mk (Kd.R_after (Kd.R_apart_nil (by (with_reducible repeat (first | apply Kd.R_alloc | apply Kd.R_drewN | apply Kd.R_drew)); exact HO152.out)) hg hat)
                                  have n1_ := Aside0.mk (Kd.R_grown (by (with_reducible repeat (first | apply Kd.R_alloc | apply Kd.R_drewN | apply Kd.R_drew)); exact HO154.out) hg (fun _ _ => by simp [Value.ownBlock]))
                                  have n2_ := Aside0.mk (blk_grown (g := gb157) (o := .cells #[.int .i64 t155, .int .i64 t156] 29 (0, 0)) (by (with_reducible repeat (first | refine blk_drewN ?_ _ | refine blk_drew ?_ | refine blk_alloc ?_ _)); exact BK157.out) hg (by simp [Value.ownBlock]))
                                  have n3_ := Aside0.mk (Kd.R_after (Kd.R_apart_nil (by (with_reducible repeat (first | apply Kd.R_alloc | apply Kd.R_drewN | apply Kd.R_drew)); exact HO172.out)) hg hat)
                                  have n4_ := Aside0.mk (hb)
                                  have n5_ := Aside0.mk (ho)
                                  clear HO152
                                  clear HO154
                                  clear BK157
                                  clear HO172
                                  clear HB
                                  have HO152 := n0_
                                  have HO154 := n1_
                                  have BK157 := n2_
                                  have HO172 := n3_
                                  have HB := n4_
                                  have HO160 := n5_
                                  clear n0_ n1_ n2_ n3_ n4_ n5_
                                  clear ho hb hg hat
                                  refine hK.out _ _ ⟨(blk_cell BK157.out 0).trans rfl, (blk_cell BK157.out 1).trans rfl⟩ (fun hHeld => ?_)
                                  clear hK K
                                  refine norm_ (a' := ?_) ?_ ?_
                                  rotate_left
                                  · show Act.put _ (some 20) _ = _
                                    simp only [Act.put, List.setIfInBounds_toArray, List.set_cons_zero, List.set_cons_succ, i64_w, i32_w]
                                    rfl
                                  exact norm_ (by first | (simp only [putAll, Act.put, List.setIfInBounds_toArray, List.set_cons_zero, List.set_cons_succ]; done) | (simp only [putAll, Act.put, List.setIfInBounds_toArray, List.set_cons_zero, List.set_cons_succ]; rfl)) (hJ2_11 (v159, v171) _ ⟨hHeld, (by (with_reducible repeat (first | apply Kd.R_alloc | apply Kd.R_drewN | apply Kd.R_drew)); exact Kd.R_mono HO152.out (fun _ hk => ⟨hk.2, hk.1⟩)), (by (with_reducible repeat (first | apply Kd.R_alloc | apply Kd.R_drewN | apply Kd.R_drew)); exact HO154.out), (by (with_reducible repeat (first | apply Kd.R_alloc | apply Kd.R_drewN | apply Kd.R_drew)); exact HO160.out), (by (with_reducible repeat (first | apply Kd.R_alloc | apply Kd.R_drewN | apply Kd.R_drew)); exact HO172.out), (by (with_reducible repeat (first | refine blk_drewN ?_ _ | refine blk_drew ?_ | refine blk_alloc ?_ _)); exact BK157.out), (by repeat (first | (with_reducible first | exact HB.out | apply below_alloc | apply pw_below_drewN | apply below_drew1 | refine below_set ?_ GE157.out) | exact HB.out))⟩)
                                · skip
                                  refine Kd.R_lit_step k31 _ 31 ?hg (N := 23) ?hd (xs := ([(⟨true, (⟨t155, t156⟩ : S29)⟩ : S31)] : List (S31))) (inner := [.bool true, .int .i64 t155, .int .i64 t156]) (ok := fun _ => True) (okp := fun _ => True) ?hr ?hp (fun _ hk => hk) trivial (Below.refl _ _) (Nat.le_refl _) (by simp) ?_; (case hd => rfl); (case hg => rfl); (case hr => first | (go_simp; done) | (go_simp; rfl)); (case hp => exact (Reps.c3 (show Kd.M k31 _ _ _ (⟨true, (⟨t155, t156⟩ : S29)⟩ : S31) [.bool true, .int .i64 t155, .int .i64 t156] from (k31_mkM _ _ _ (⟨true, (⟨t155, t156⟩ : S29)⟩ : S31) )) (Reps.none _ _)))
                                  intro v162 w23 ho24 hb hg_ hnew_
                                  clear hg_ hnew_
                                  (first | rw [← Ny161.out] at ho24 | (simp only [Int.reduceToNat] at ho24; rw [← Ny161.out] at ho24))
                                  have n0_ := Aside0.mk (Kd.R_elder' (by (with_reducible repeat (first | apply Kd.R_alloc | apply Kd.R_drewN | apply Kd.R_drew)); exact HO152.out) (Kd.R_base ho24) hb)
                                  have n1_ := Aside0.mk (Kd.R_below (by (with_reducible repeat (first | apply Kd.R_alloc | apply Kd.R_drewN | apply Kd.R_drew)); exact HO154.out) hb)
                                  have n2_ := Aside0.mk (Kd.R_elder' (by (with_reducible repeat (first | apply Kd.R_alloc | apply Kd.R_drewN | apply Kd.R_drew)); exact HO172.out) (Kd.R_base ho24) hb)
                                  have n3_ := Aside0.mk (Kd.R_lower (Kd.R_new' (Kd.R_new' ho24 (Kd.R_lt (by (with_reducible repeat (first | apply Kd.R_alloc | apply Kd.R_drewN | apply Kd.R_drew)); exact HO152.out))) (Kd.R_lt (by (with_reducible repeat (first | apply Kd.R_alloc | apply Kd.R_drewN | apply Kd.R_drew)); exact HO172.out))) (below_size (by repeat (first | (with_reducible first | exact HB.out | apply below_alloc | apply pw_below_drewN | apply below_drew1 | refine below_set ?_ GE157.out) | exact HB.out))))
                                  have n4_ := Aside0.mk (blk_below (g := gb157) (o := .cells #[.int .i64 t155, .int .i64 t156] 29 (0, 0)) (by (with_reducible repeat (first | refine blk_drewN ?_ _ | refine blk_drew ?_ | refine blk_alloc ?_ _)); exact BK157.out) hb)
                                  have n5_ := Aside0.mk (below_step (by repeat (first | (with_reducible first | exact HB.out | apply below_alloc | apply pw_below_drewN | apply below_drew1 | refine below_set ?_ GE157.out) | exact HB.out)) hb)
                                  clear HO152
                                  clear HO154
                                  clear HO172
                                  clear BK157
                                  clear HB
                                  have HO152 := n0_
                                  have HO154 := n1_
                                  have HO172 := n2_
                                  have HO163 := n3_
                                  have BK157 := n4_
                                  have HB := n5_
                                  clear n0_ n1_ n2_ n3_ n4_ n5_
                                  clear hb ho24
                                  refine hK.out _ _ ⟨(blk_cell BK157.out 0).trans rfl, (blk_cell BK157.out 1).trans rfl⟩ (fun hHeld => ?_)
                                  clear hK K
                                  refine norm_ (a' := ?_) ?_ ?_
                                  rotate_left
                                  · show Act.put _ (some 23) _ = _
                                    simp only [Act.put, List.setIfInBounds_toArray, List.set_cons_zero, List.set_cons_succ, i64_w, i32_w]
                                    rfl
                                  exact norm_ (by first | (simp only [putAll, Act.put, List.setIfInBounds_toArray, List.set_cons_zero, List.set_cons_succ]; done) | (simp only [putAll, Act.put, List.setIfInBounds_toArray, List.set_cons_zero, List.set_cons_succ]; rfl)) (hJ5_11 (v162, v171) _ ⟨hHeld, (by (with_reducible repeat (first | apply Kd.R_alloc | apply Kd.R_drewN | apply Kd.R_drew)); exact Kd.R_mono HO152.out (fun _ hk => ⟨hk.2, hk.1⟩)), (by (with_reducible repeat (first | apply Kd.R_alloc | apply Kd.R_drewN | apply Kd.R_drew)); exact HO154.out), (by (with_reducible repeat (first | apply Kd.R_alloc | apply Kd.R_drewN | apply Kd.R_drew)); exact Kd.R_mono HO163.out (fun _ hk => ⟨hk.1.2, hk.2⟩)), (by (with_reducible repeat (first | apply Kd.R_alloc | apply Kd.R_drewN | apply Kd.R_drew)); exact HO172.out), (by (with_reducible repeat (first | refine blk_drewN ?_ _ | refine blk_drew ?_ | refine blk_alloc ?_ _)); exact BK157.out), (by repeat (first | (with_reducible first | exact HB.out | apply below_alloc | apply pw_below_drewN | apply below_drew1 | refine below_set ?_ GE157.out) | exact HB.out))⟩)
                            · skip
                              rintro v162 w22 ⟨hS_, h0_, h1_, h2_, h3_, h4_⟩
                              have n0_ : Aside0 (Kd.R k31 31 w22 w.heap.size (fun k_ => some k_ ≠ (v162 : Value).ownBlock) (.slice Ao14 t149.length co14) t149) := ⟨h0_⟩
                              have n1_ : Aside0 (Kd.R k44 44 w22 w.heap.size (fun _ => True) v153 t150) := ⟨h1_⟩
                              have n2_ : Aside0 (Kd.R k31 31 w22 w.heap.size (fun k_ => some k_ ≠ (.slice Ao14 t149.length co14 : Value).ownBlock) v162 y161) := ⟨h2_⟩
                              have n3_ : Aside0 (w22.heap[gb157]? = some (.cells #[.int .i64 t155, .int .i64 t156] 29 (0, 0))) := ⟨h3_⟩
                              have n4_ : Aside0 (Below w.heap.size w w22) := ⟨h4_⟩
                              clear HO152
                              clear HO154
                              clear BK157
                              clear HB
                              clear h0_ h1_ h2_ h3_ h4_
                              have HO152 := n0_
                              have HO154 := n1_
                              have HO163 := n2_
                              have BK157 := n3_
                              have HB := n4_
                              clear n0_ n1_ n2_ n3_ n4_
                              have hHeld : w22.cell? ⟨gb157, 0, none⟩ = some (.int .i64 t155) ∧ w22.cell? ⟨gb157, 1, none⟩ = some (.int .i64 t156) := hS_
                              refine norm_ (a' := ?_) ?_ ?_
                              rotate_left
                              · simp only [putAll, Act.put, List.setIfInBounds_toArray, List.set_cons_zero, List.set_cons_succ]
                                rfl
                              refine two_ (i := 2) (j := 11) (Ni := some 20) (Nj := some 29) #[true, true, true, true, true, true, false, true, true, false, true, false, false, false, false] #[true, true, false, true, true, true, false, true, true, false, true, true, false, false, false] rfl rfl rfl rfl (two_of HT_.out (by kernel_rfl)) (by decide) (by decide) (fun K hK => ?_) (fun K hK => ?_)
                              · skip
                                refine Kd.R_append_rows_step k31 (w0 := w) w.heap.size (by rfl) (.tmp 18) (.tmp 19) 24 31 (.agg #[(.bool false), (.int .i64 0), (.int .i64 0)]) 24 rfl Try.underlying24 info31 rfl (by decide) (by omega) (.slice none 0 0) ([] : List (S31)) t149 _ _ _ (fun k_ => some k_ ≠ (.slice Ao14 t149.length co14 : Value).ownBlock ∧ some k_ ≠ (v162 : Value).ownBlock) (fun _ => False) rfl rfl ?aO ?aR (fun _ _ h => h) (fun _ h => h.elim) ?aF ?aB ?aS ?aL ?_
                                (case aR => repeat (first | exact (Kd.R_reads' HO152.out).2.2 | (with_reducible refine Kd.C_alloc ?_ _) | (with_reducible refine Kd.C_drewN ?_ _) | (with_reducible refine Kd.C_drew ?_)))
                                (case aB => exact (by repeat (first | (with_reducible first | exact HB.out | apply below_alloc | apply pw_below_drewN | apply below_drew1 | refine below_set ?_ GE157.out) | exact HB.out)))
                                (case aF => exact (fun k_ hk => ⟨Kd.fresh' (Kd.R_lt (by (with_reducible repeat (first | apply Kd.R_alloc | apply Kd.R_drewN | apply Kd.R_drew)); exact HO152.out)) k_ hk, Kd.fresh' (Kd.R_lt (by (with_reducible repeat (first | apply Kd.R_alloc | apply Kd.R_drewN | apply Kd.R_drew)); exact HO163.out)) k_ hk⟩))
                                (case aO => exact ((Kd.R_nil _ _ _ _ (fun k_ => some k_ ≠ (.slice Ao14 t149.length co14 : Value).ownBlock ∧ some k_ ≠ (v162 : Value).ownBlock))))
                                (case aS => exact (below_size (by repeat (first | (with_reducible first | exact HB.out | apply below_alloc | apply pw_below_drewN | apply below_drew1 | refine below_set ?_ GE157.out) | exact HB.out))))
                                (case aL => have := LMc6.out; omega)
                                intro v159 w23 ho hb hg hat
                                rw [← Ny158.out] at ho
                                have n0_ := Aside0.mk (Kd.R_after (Kd.R_apart_nil (by (with_reducible repeat (first | apply Kd.R_alloc | apply Kd.R_drewN | apply Kd.R_drew)); exact HO152.out)) hg hat)
                                have n1_ := Aside0.mk (Kd.R_grown (by (with_reducible repeat (first | apply Kd.R_alloc | apply Kd.R_drewN | apply Kd.R_drew)); exact HO154.out) hg (fun _ _ => by simp [Value.ownBlock]))
                                have n2_ := Aside0.mk (blk_grown (g := gb157) (o := .cells #[.int .i64 t155, .int .i64 t156] 29 (0, 0)) (by (with_reducible repeat (first | refine blk_drewN ?_ _ | refine blk_drew ?_ | refine blk_alloc ?_ _)); exact BK157.out) hg (by simp [Value.ownBlock]))
                                have n3_ := Aside0.mk (Kd.R_after (Kd.R_apart_nil (by (with_reducible repeat (first | apply Kd.R_alloc | apply Kd.R_drewN | apply Kd.R_drew)); exact HO163.out)) hg hat)
                                have n4_ := Aside0.mk (hb)
                                have n5_ := Aside0.mk (ho)
                                clear HO152
                                clear HO154
                                clear BK157
                                clear HO163
                                clear HB
                                have HO152 := n0_
                                have HO154 := n1_
                                have BK157 := n2_
                                have HO163 := n3_
                                have HB := n4_
                                have HO160 := n5_
                                clear n0_ n1_ n2_ n3_ n4_ n5_
                                clear ho hb hg hat
                                refine hK.out _ _ ⟨(blk_cell BK157.out 0).trans rfl, (blk_cell BK157.out 1).trans rfl⟩ (fun hHeld => ?_)
                                clear hK K
                                refine norm_ (a' := ?_) ?_ ?_
                                rotate_left
                                · show Act.put _ (some 20) _ = _
                                  simp only [Act.put, List.setIfInBounds_toArray, List.set_cons_zero, List.set_cons_succ, i64_w, i32_w]
                                  rfl
                                exact norm_ (by first | (simp only [putAll, Act.put, List.setIfInBounds_toArray, List.set_cons_zero, List.set_cons_succ]; done) | (simp only [putAll, Act.put, List.setIfInBounds_toArray, List.set_cons_zero, List.set_cons_succ]; rfl)) (hJ2_5 (v159, v162) _ ⟨hHeld, (by (with_reducible repeat (first | apply Kd.R_alloc | apply Kd.R_drewN | apply Kd.R_drew)); exact Kd.R_mono HO152.out (fun _ hk => ⟨hk.2, hk.1⟩)), (by (with_reducible repeat (first | apply Kd.R_alloc | apply Kd.R_drewN | apply Kd.R_drew)); exact HO154.out), (by (with_reducible repeat (first | apply Kd.R_alloc | apply Kd.R_drewN | apply Kd.R_drew)); exact HO160.out), (by (with_reducible repeat (first | apply Kd.R_alloc | apply Kd.R_drewN | apply Kd.R_drew)); exact HO163.out), (by (with_reducible repeat (first | refine blk_drewN ?_ _ | refine blk_drew ?_ | refine blk_alloc ?_ _)); exact BK157.out), (by repeat (first | (with_reducible first | exact HB.out | apply below_alloc | apply pw_below_drewN | apply below_drew1 | refine below_set ?_ GE157.out) | exact HB.out))⟩)
                              · skip
                                refine Kd.R_lit_step k31 _ 31 ?hg (N := 29) ?hd (xs := ([(⟨false, (⟨0, 0⟩ : S29)⟩ : S31)] : List (S31))) (inner := [.bool false, .int .i64 0, .int .i64 0]) (ok := fun _ => True) (okp := fun _ => True) ?hr ?hp (fun _ hk => hk) trivial (Below.refl _ _) (Nat.le_refl _) (by simp) ?_; (case hd => rfl); (case hg => rfl); (case hr => first | (go_simp; done) | (go_simp; rfl)); (case hp => exact (Reps.c3 (show Kd.M k31 _ _ _ (⟨false, (⟨0, 0⟩ : S29)⟩ : S31) [.bool false, .int .i64 0, .int .i64 0] from (k31_mkM _ _ _ (⟨false, (⟨0, 0⟩ : S29)⟩ : S31) )) (Reps.none _ _)))
                                intro v171 w23 ho24 hb hg_ hnew_
                                clear hg_ hnew_
                                (first | rw [← Ny170.out] at ho24 | (simp only [Int.reduceToNat] at ho24; rw [← Ny170.out] at ho24))
                                have n0_ := Aside0.mk (Kd.R_elder' (by (with_reducible repeat (first | apply Kd.R_alloc | apply Kd.R_drewN | apply Kd.R_drew)); exact HO152.out) (Kd.R_base ho24) hb)
                                have n1_ := Aside0.mk (Kd.R_below (by (with_reducible repeat (first | apply Kd.R_alloc | apply Kd.R_drewN | apply Kd.R_drew)); exact HO154.out) hb)
                                have n2_ := Aside0.mk (Kd.R_elder' (by (with_reducible repeat (first | apply Kd.R_alloc | apply Kd.R_drewN | apply Kd.R_drew)); exact HO163.out) (Kd.R_base ho24) hb)
                                have n3_ := Aside0.mk (Kd.R_lower (Kd.R_new' (Kd.R_new' ho24 (Kd.R_lt (by (with_reducible repeat (first | apply Kd.R_alloc | apply Kd.R_drewN | apply Kd.R_drew)); exact HO152.out))) (Kd.R_lt (by (with_reducible repeat (first | apply Kd.R_alloc | apply Kd.R_drewN | apply Kd.R_drew)); exact HO163.out))) (below_size (by repeat (first | (with_reducible first | exact HB.out | apply below_alloc | apply pw_below_drewN | apply below_drew1 | refine below_set ?_ GE157.out) | exact HB.out))))
                                have n4_ := Aside0.mk (blk_below (g := gb157) (o := .cells #[.int .i64 t155, .int .i64 t156] 29 (0, 0)) (by (with_reducible repeat (first | refine blk_drewN ?_ _ | refine blk_drew ?_ | refine blk_alloc ?_ _)); exact BK157.out) hb)
                                have n5_ := Aside0.mk (below_step (by repeat (first | (with_reducible first | exact HB.out | apply below_alloc | apply pw_below_drewN | apply below_drew1 | refine below_set ?_ GE157.out) | exact HB.out)) hb)
                                clear HO152
                                clear HO154
                                clear HO163
                                clear BK157
                                clear HB
                                have HO152 := n0_
                                have HO154 := n1_
                                have HO163 := n2_
                                have HO172 := n3_
                                have BK157 := n4_
                                have HB := n5_
                                clear n0_ n1_ n2_ n3_ n4_ n5_
                                clear hb ho24
                                refine hK.out _ _ ⟨(blk_cell BK157.out 0).trans rfl, (blk_cell BK157.out 1).trans rfl⟩ (fun hHeld => ?_)
                                clear hK K
                                refine norm_ (a' := ?_) ?_ ?_
                                rotate_left
                                · show Act.put _ (some 29) _ = _
                                  simp only [Act.put, List.setIfInBounds_toArray, List.set_cons_zero, List.set_cons_succ, i64_w, i32_w]
                                  rfl
                                exact norm_ (by first | (simp only [putAll, Act.put, List.setIfInBounds_toArray, List.set_cons_zero, List.set_cons_succ]; done) | (simp only [putAll, Act.put, List.setIfInBounds_toArray, List.set_cons_zero, List.set_cons_succ]; rfl)) (hJ5_11 (v162, v171) _ ⟨hHeld, (by (with_reducible repeat (first | apply Kd.R_alloc | apply Kd.R_drewN | apply Kd.R_drew)); exact HO152.out), (by (with_reducible repeat (first | apply Kd.R_alloc | apply Kd.R_drewN | apply Kd.R_drew)); exact HO154.out), (by (with_reducible repeat (first | apply Kd.R_alloc | apply Kd.R_drewN | apply Kd.R_drew)); exact HO163.out), (by (with_reducible repeat (first | apply Kd.R_alloc | apply Kd.R_drewN | apply Kd.R_drew)); exact Kd.R_mono HO172.out (fun _ hk => ⟨hk.1.2, hk.2⟩)), (by (with_reducible repeat (first | refine blk_drewN ?_ _ | refine blk_drew ?_ | refine blk_alloc ?_ _)); exact BK157.out), (by repeat (first | (with_reducible first | exact HB.out | apply below_alloc | apply pw_below_drewN | apply below_drew1 | refine below_set ?_ GE157.out) | exact HB.out))⟩)
                          · skip
                            rintro v159 w21 ⟨hS_, h0_, h1_, h2_, h3_, h4_⟩
                            have n0_ : Aside0 (Kd.R k31 31 w21 w.heap.size (fun k_ => some k_ ≠ (v159 : Value).ownBlock) (.slice Ao14 t149.length co14) t149) := ⟨h0_⟩
                            have n1_ : Aside0 (Kd.R k44 44 w21 w.heap.size (fun _ => True) v153 t150) := ⟨h1_⟩
                            have n2_ : Aside0 (Kd.R k31 31 w21 w.heap.size (fun k_ => some k_ ≠ (.slice Ao14 t149.length co14 : Value).ownBlock) v159 y158) := ⟨h2_⟩
                            have n3_ : Aside0 (w21.heap[gb157]? = some (.cells #[.int .i64 t155, .int .i64 t156] 29 (0, 0))) := ⟨h3_⟩
                            have n4_ : Aside0 (Below w.heap.size w w21) := ⟨h4_⟩
                            clear HO152
                            clear HO154
                            clear BK157
                            clear HB
                            clear h0_ h1_ h2_ h3_ h4_
                            have HO152 := n0_
                            have HO154 := n1_
                            have HO160 := n2_
                            have BK157 := n3_
                            have HB := n4_
                            clear n0_ n1_ n2_ n3_ n4_
                            have hHeld : w21.cell? ⟨gb157, 0, none⟩ = some (.int .i64 t155) ∧ w21.cell? ⟨gb157, 1, none⟩ = some (.int .i64 t156) := hS_
                            refine norm_ (a' := ?_) ?_ ?_
                            rotate_left
                            · simp only [putAll, Act.put, List.setIfInBounds_toArray, List.set_cons_zero, List.set_cons_succ]
                              rfl
                            refine two_ (i := 5) (j := 11) (Ni := some 23) (Nj := some 29) #[true, true, true, true, true, true, false, true, true, false, true, false, false, false, false] #[true, true, true, true, true, false, false, true, true, false, true, true, false, false, false] rfl rfl rfl rfl (two_of HT_.out (by kernel_rfl)) (by decide) (by decide) (fun K hK => ?_) (fun K hK => ?_)
                            · skip
                              refine Kd.R_lit_step k31 _ 31 ?hg (N := 23) ?hd (xs := ([(⟨true, (⟨t155, t156⟩ : S29)⟩ : S31)] : List (S31))) (inner := [.bool true, .int .i64 t155, .int .i64 t156]) (ok := fun _ => True) (okp := fun _ => True) ?hr ?hp (fun _ hk => hk) trivial (Below.refl _ _) (Nat.le_refl _) (by simp) ?_; (case hd => rfl); (case hg => rfl); (case hr => first | (go_simp; done) | (go_simp; rfl)); (case hp => exact (Reps.c3 (show Kd.M k31 _ _ _ (⟨true, (⟨t155, t156⟩ : S29)⟩ : S31) [.bool true, .int .i64 t155, .int .i64 t156] from (k31_mkM _ _ _ (⟨true, (⟨t155, t156⟩ : S29)⟩ : S31) )) (Reps.none _ _)))
                              intro v162 w22 ho23 hb hg_ hnew_
                              clear hg_ hnew_
                              (first | rw [← Ny161.out] at ho23 | (simp only [Int.reduceToNat] at ho23; rw [← Ny161.out] at ho23))
                              have n0_ := Aside0.mk (Kd.R_elder' (by (with_reducible repeat (first | apply Kd.R_alloc | apply Kd.R_drewN | apply Kd.R_drew)); exact HO152.out) (Kd.R_base ho23) hb)
                              have n1_ := Aside0.mk (Kd.R_below (by (with_reducible repeat (first | apply Kd.R_alloc | apply Kd.R_drewN | apply Kd.R_drew)); exact HO154.out) hb)
                              have n2_ := Aside0.mk (Kd.R_elder' (by (with_reducible repeat (first | apply Kd.R_alloc | apply Kd.R_drewN | apply Kd.R_drew)); exact HO160.out) (Kd.R_base ho23) hb)
                              have n3_ := Aside0.mk (Kd.R_lower (Kd.R_new' (Kd.R_new' ho23 (Kd.R_lt (by (with_reducible repeat (first | apply Kd.R_alloc | apply Kd.R_drewN | apply Kd.R_drew)); exact HO152.out))) (Kd.R_lt (by (with_reducible repeat (first | apply Kd.R_alloc | apply Kd.R_drewN | apply Kd.R_drew)); exact HO160.out))) (below_size (by repeat (first | (with_reducible first | exact HB.out | apply below_alloc | apply pw_below_drewN | apply below_drew1 | refine below_set ?_ GE157.out) | exact HB.out))))
                              have n4_ := Aside0.mk (blk_below (g := gb157) (o := .cells #[.int .i64 t155, .int .i64 t156] 29 (0, 0)) (by (with_reducible repeat (first | refine blk_drewN ?_ _ | refine blk_drew ?_ | refine blk_alloc ?_ _)); exact BK157.out) hb)
                              have n5_ := Aside0.mk (below_step (by repeat (first | (with_reducible first | exact HB.out | apply below_alloc | apply pw_below_drewN | apply below_drew1 | refine below_set ?_ GE157.out) | exact HB.out)) hb)
                              clear HO152
                              clear HO154
                              clear HO160
                              clear BK157
                              clear HB
                              have HO152 := n0_
                              have HO154 := n1_
                              have HO160 := n2_
                              have HO163 := n3_
                              have BK157 := n4_
                              have HB := n5_
                              clear n0_ n1_ n2_ n3_ n4_ n5_
                              clear hb ho23
                              refine hK.out _ _ ⟨(blk_cell BK157.out 0).trans rfl, (blk_cell BK157.out 1).trans rfl⟩ (fun hHeld => ?_)
                              clear hK K
                              refine norm_ (a' := ?_) ?_ ?_
                              rotate_left
                              · show Act.put _ (some 23) _ = _
                                simp only [Act.put, List.setIfInBounds_toArray, List.set_cons_zero, List.set_cons_succ, i64_w, i32_w]
                                rfl
                              exact norm_ (by first | (simp only [putAll, Act.put, List.setIfInBounds_toArray, List.set_cons_zero, List.set_cons_succ]; done) | (simp only [putAll, Act.put, List.setIfInBounds_toArray, List.set_cons_zero, List.set_cons_succ]; rfl)) (hJ2_5 (v159, v162) _ ⟨hHeld, (by (with_reducible repeat (first | apply Kd.R_alloc | apply Kd.R_drewN | apply Kd.R_drew)); exact HO152.out), (by (with_reducible repeat (first | apply Kd.R_alloc | apply Kd.R_drewN | apply Kd.R_drew)); exact HO154.out), (by (with_reducible repeat (first | apply Kd.R_alloc | apply Kd.R_drewN | apply Kd.R_drew)); exact HO160.out), (by (with_reducible repeat (first | apply Kd.R_alloc | apply Kd.R_drewN | apply Kd.R_drew)); exact Kd.R_mono HO163.out (fun _ hk => ⟨hk.1.2, hk.2⟩)), (by (with_reducible repeat (first | refine blk_drewN ?_ _ | refine blk_drew ?_ | refine blk_alloc ?_ _)); exact BK157.out), (by repeat (first | (with_reducible first | exact HB.out | apply below_alloc | apply pw_below_drewN | apply below_drew1 | refine below_set ?_ GE157.out) | exact HB.out))⟩)
                            · skip
                              refine Kd.R_lit_step k31 _ 31 ?hg (N := 29) ?hd (xs := ([(⟨false, (⟨0, 0⟩ : S29)⟩ : S31)] : List (S31))) (inner := [.bool false, .int .i64 0, .int .i64 0]) (ok := fun _ => True) (okp := fun _ => True) ?hr ?hp (fun _ hk => hk) trivial (Below.refl _ _) (Nat.le_refl _) (by simp) ?_; (case hd => rfl); (case hg => rfl); (case hr => first | (go_simp; done) | (go_simp; rfl)); (case hp => exact (Reps.c3 (show Kd.M k31 _ _ _ (⟨false, (⟨0, 0⟩ : S29)⟩ : S31) [.bool false, .int .i64 0, .int .i64 0] from (k31_mkM _ _ _ (⟨false, (⟨0, 0⟩ : S29)⟩ : S31) )) (Reps.none _ _)))
                              intro v171 w22 ho23 hb hg_ hnew_
                              clear hg_ hnew_
                              (first | rw [← Ny170.out] at ho23 | (simp only [Int.reduceToNat] at ho23; rw [← Ny170.out] at ho23))
                              have n0_ := Aside0.mk (Kd.R_elder' (by (with_reducible repeat (first | apply Kd.R_alloc | apply Kd.R_drewN | apply Kd.R_drew)); exact HO152.out) (Kd.R_base ho23) hb)
                              have n1_ := Aside0.mk (Kd.R_below (by (with_reducible repeat (first | apply Kd.R_alloc | apply Kd.R_drewN | apply Kd.R_drew)); exact HO154.out) hb)
                              have n2_ := Aside0.mk (Kd.R_elder' (by (with_reducible repeat (first | apply Kd.R_alloc | apply Kd.R_drewN | apply Kd.R_drew)); exact HO160.out) (Kd.R_base ho23) hb)
                              have n3_ := Aside0.mk (Kd.R_lower (Kd.R_new' (Kd.R_new' ho23 (Kd.R_lt (by (with_reducible repeat (first | apply Kd.R_alloc | apply Kd.R_drewN | apply Kd.R_drew)); exact HO152.out))) (Kd.R_lt (by (with_reducible repeat (first | apply Kd.R_alloc | apply Kd.R_drewN | apply Kd.R_drew)); exact HO160.out))) (below_size (by repeat (first | (with_reducible first | exact HB.out | apply below_alloc | apply pw_below_drewN | apply below_drew1 | refine below_set ?_ GE157.out) | exact HB.out))))
                              have n4_ := Aside0.mk (blk_below (g := gb157) (o := .cells #[.int .i64 t155, .int .i64 t156] 29 (0, 0)) (by (with_reducible repeat (first | refine blk_drewN ?_ _ | refine blk_drew ?_ | refine blk_alloc ?_ _)); exact BK157.out) hb)
                              have n5_ := Aside0.mk (below_step (by repeat (first | (with_reducible first | exact HB.out | apply below_alloc | apply pw_below_drewN | apply below_drew1 | refine below_set ?_ GE157.out) | exact HB.out)) hb)
                              clear HO152
                              clear HO154
                              clear HO160
                              clear BK157
                              clear HB
                              have HO152 := n0_
                              have HO154 := n1_
                              have HO160 := n2_
                              have HO172 := n3_
                              have BK157 := n4_
                              have HB := n5_
                              clear n0_ n1_ n2_ n3_ n4_ n5_
                              clear hb ho23
                              refine hK.out _ _ ⟨(blk_cell BK157.out 0).trans rfl, (blk_cell BK157.out 1).trans rfl⟩ (fun hHeld => ?_)
                              clear hK K
                              refine norm_ (a' := ?_) ?_ ?_
                              rotate_left
                              · show Act.put _ (some 29) _ = _
                                simp only [Act.put, List.setIfInBounds_toArray, List.set_cons_zero, List.set_cons_succ, i64_w, i32_w]
                                rfl
                              exact norm_ (by first | (simp only [putAll, Act.put, List.setIfInBounds_toArray, List.set_cons_zero, List.set_cons_succ]; done) | (simp only [putAll, Act.put, List.setIfInBounds_toArray, List.set_cons_zero, List.set_cons_succ]; rfl)) (hJ2_11 (v159, v171) _ ⟨hHeld, (by (with_reducible repeat (first | apply Kd.R_alloc | apply Kd.R_drewN | apply Kd.R_drew)); exact HO152.out), (by (with_reducible repeat (first | apply Kd.R_alloc | apply Kd.R_drewN | apply Kd.R_drew)); exact HO154.out), (by (with_reducible repeat (first | apply Kd.R_alloc | apply Kd.R_drewN | apply Kd.R_drew)); exact HO160.out), (by (with_reducible repeat (first | apply Kd.R_alloc | apply Kd.R_drewN | apply Kd.R_drew)); exact Kd.R_mono HO172.out (fun _ hk => ⟨hk.1.2, hk.2⟩)), (by (with_reducible repeat (first | refine blk_drewN ?_ _ | refine blk_drew ?_ | refine blk_alloc ?_ _)); exact BK157.out), (by repeat (first | (with_reducible first | exact HB.out | apply below_alloc | apply pw_below_drewN | apply below_drew1 | refine below_set ?_ GE157.out) | exact HB.out))⟩)
                        · skip
                          rintro ⟨v162, v171⟩ w24 ⟨hS_, h0_, h1_, h2_, h3_, h4_, h5_⟩
                          have n0_ : Aside0 (Kd.R k31 31 w24 w.heap.size (fun k_ => some k_ ≠ (v162 : Value).ownBlock ∧ some k_ ≠ (v171 : Value).ownBlock) (.slice Ao14 t149.length co14) t149) := ⟨h0_⟩
                          have n1_ : Aside0 (Kd.R k44 44 w24 w.heap.size (fun _ => True) v153 t150) := ⟨h1_⟩
                          have n2_ : Aside0 (Kd.R k31 31 w24 w.heap.size (fun k_ => some k_ ≠ (.slice Ao14 t149.length co14 : Value).ownBlock ∧ some k_ ≠ (v171 : Value).ownBlock) v162 y161) := ⟨h2_⟩
                          have n3_ : Aside0 (Kd.R k31 31 w24 w.heap.size (fun k_ => some k_ ≠ (.slice Ao14 t149.length co14 : Value).ownBlock ∧ some k_ ≠ (v162 : Value).ownBlock) v171 y170) := ⟨h3_⟩
                          have n4_ : Aside0 (w24.heap[gb157]? = some (.cells #[.int .i64 t155, .int .i64 t156] 29 (0, 0))) := ⟨h4_⟩
                          have n5_ : Aside0 (Below w.heap.size w w24) := ⟨h5_⟩
                          clear HO152
                          clear HO154
                          clear BK157
                          clear HB
                          clear h0_ h1_ h2_ h3_ h4_ h5_
                          have HO152 := n0_
                          have HO154 := n1_
                          have HO163 := n2_
                          have HO172 := n3_
                          have BK157 := n4_
                          have HB := n5_
                          clear n0_ n1_ n2_ n3_ n4_ n5_
                          have hHeld : w24.cell? ⟨gb157, 0, none⟩ = some (.int .i64 t155) ∧ w24.cell? ⟨gb157, 1, none⟩ = some (.int .i64 t156) := hS_
                          refine norm_ (a' := ?_) ?_ ?_
                          rotate_left
                          · simp only [putAll, Act.put, List.setIfInBounds_toArray, List.set_cons_zero, List.set_cons_succ]
                            rfl
                          refine one_ (i := 2) (N := some 20) #[true, true, true, true, true, true, false, true, true, false, true, true, false, false, false] rfl rfl (one_of HT_.out (by kernel_rfl)) (by decide) (fun K hK => ?_)
                          refine Kd.R_append_rows_step k31 (w0 := w) w.heap.size (by rfl) (.tmp 18) (.tmp 19) 24 31 (.agg #[(.bool false), (.int .i64 0), (.int .i64 0)]) 24 rfl Try.underlying24 info31 rfl (by decide) (by omega) (.slice none 0 0) ([] : List (S31)) t149 _ _ _ (fun k_ => some k_ ≠ (.slice Ao14 t149.length co14 : Value).ownBlock ∧ some k_ ≠ (v162 : Value).ownBlock ∧ some k_ ≠ (v171 : Value).ownBlock) (fun _ => False) rfl rfl ?aO ?aR (fun _ _ h => h) (fun _ h => h.elim) ?aF ?aB ?aS ?aL ?_
                          (case aR => repeat (first | exact (Kd.R_reads' HO152.out).2.2 | (with_reducible refine Kd.C_alloc ?_ _) | (with_reducible refine Kd.C_drewN ?_ _) | (with_reducible refine Kd.C_drew ?_)))
                          (case aB => exact (by repeat (first | (with_reducible first | exact HB.out | apply below_alloc | apply pw_below_drewN | apply below_drew1 | refine below_set ?_ GE157.out) | exact HB.out)))
                          (case aF => exact (fun k_ hk => ⟨Kd.fresh' (Kd.R_lt (by (with_reducible repeat (first | apply Kd.R_alloc | apply Kd.R_drewN | apply Kd.R_drew)); exact HO152.out)) k_ hk, Kd.fresh' (Kd.R_lt (by (with_reducible repeat (first | apply Kd.R_alloc | apply Kd.R_drewN | apply Kd.R_drew)); exact HO163.out)) k_ hk, Kd.fresh' (Kd.R_lt (by (with_reducible repeat (first | apply Kd.R_alloc | apply Kd.R_drewN | apply Kd.R_drew)); exact HO172.out)) k_ hk⟩))
                          (case aO => exact ((Kd.R_nil _ _ _ _ (fun k_ => some k_ ≠ (.slice Ao14 t149.length co14 : Value).ownBlock ∧ some k_ ≠ (v162 : Value).ownBlock ∧ some k_ ≠ (v171 : Value).ownBlock))))
                          (case aS => exact (below_size (by repeat (first | (with_reducible first | exact HB.out | apply below_alloc | apply pw_below_drewN | apply below_drew1 | refine below_set ?_ GE157.out) | exact HB.out))))
                          (case aL => have := LMc6.out; omega)
                          intro v159 w25 ho hb hg hat
                          rw [← Ny158.out] at ho
                          have n0_ := Aside0.mk (Kd.R_after (Kd.R_apart_nil (by (with_reducible repeat (first | apply Kd.R_alloc | apply Kd.R_drewN | apply Kd.R_drew)); exact HO152.out)) hg hat)
                          have n1_ := Aside0.mk (Kd.R_grown (by (with_reducible repeat (first | apply Kd.R_alloc | apply Kd.R_drewN | apply Kd.R_drew)); exact HO154.out) hg (fun _ _ => by simp [Value.ownBlock]))
                          have n2_ := Aside0.mk (blk_grown (g := gb157) (o := .cells #[.int .i64 t155, .int .i64 t156] 29 (0, 0)) (by (with_reducible repeat (first | refine blk_drewN ?_ _ | refine blk_drew ?_ | refine blk_alloc ?_ _)); exact BK157.out) hg (by simp [Value.ownBlock]))
                          have n3_ := Aside0.mk (Kd.R_after (Kd.R_apart_nil (by (with_reducible repeat (first | apply Kd.R_alloc | apply Kd.R_drewN | apply Kd.R_drew)); exact HO163.out)) hg hat)
                          have n4_ := Aside0.mk (Kd.R_after (Kd.R_apart_nil (by (with_reducible repeat (first | apply Kd.R_alloc | apply Kd.R_drewN | apply Kd.R_drew)); exact HO172.out)) hg hat)
                          have n5_ := Aside0.mk (hb)
                          have n6_ := Aside0.mk (ho)
                          clear HO152
                          clear HO154
                          clear BK157
                          clear HO163
                          clear HO172
                          clear HB
                          have HO152 := n0_
                          have HO154 := n1_
                          have BK157 := n2_
                          have HO163 := n3_
                          have HO172 := n4_
                          have HB := n5_
                          have HO160 := n6_
                          clear n0_ n1_ n2_ n3_ n4_ n5_ n6_
                          clear ho hb hg hat
                          refine hK.out _ _ ⟨(blk_cell BK157.out 0).trans rfl, (blk_cell BK157.out 1).trans rfl⟩ (fun hHeld => ?_)
                          clear hK K
                          refine norm_ (a' := ?_) ?_ ?_
                          rotate_left
                          · show Act.put _ (some 20) _ = _
                            simp only [Act.put, List.setIfInBounds_toArray, List.set_cons_zero, List.set_cons_succ, i64_w, i32_w]
                            rfl
                          exact norm_ (by first | (simp only [putAll, Act.put, List.setIfInBounds_toArray, List.set_cons_zero, List.set_cons_succ]; done) | (simp only [putAll, Act.put, List.setIfInBounds_toArray, List.set_cons_zero, List.set_cons_succ]; rfl)) (hJ2_5_11 (v159, v162, v171) _ ⟨hHeld, (by (with_reducible repeat (first | apply Kd.R_alloc | apply Kd.R_drewN | apply Kd.R_drew)); exact Kd.R_mono HO152.out (fun _ hk => ⟨hk.2, ⟨hk.1.1, hk.1.2⟩⟩)), (by (with_reducible repeat (first | apply Kd.R_alloc | apply Kd.R_drewN | apply Kd.R_drew)); exact HO154.out), (by (with_reducible repeat (first | apply Kd.R_alloc | apply Kd.R_drewN | apply Kd.R_drew)); exact HO160.out), (by (with_reducible repeat (first | apply Kd.R_alloc | apply Kd.R_drewN | apply Kd.R_drew)); exact Kd.R_mono HO163.out (fun _ hk => ⟨hk.1.1, ⟨hk.2, hk.1.2⟩⟩)), (by (with_reducible repeat (first | apply Kd.R_alloc | apply Kd.R_drewN | apply Kd.R_drew)); exact Kd.R_mono HO172.out (fun _ hk => ⟨hk.1.1, ⟨hk.2, hk.1.2⟩⟩)), (by (with_reducible repeat (first | refine blk_drewN ?_ _ | refine blk_drew ?_ | refine blk_alloc ?_ _)); exact BK157.out), (by repeat (first | (with_reducible first | exact HB.out | apply below_alloc | apply pw_below_drewN | apply below_drew1 | refine below_set ?_ GE157.out) | exact HB.out))⟩)
                      · skip
                        rintro ⟨v159, v171⟩ w23 ⟨hS_, h0_, h1_, h2_, h3_, h4_, h5_⟩
                        have n0_ : Aside0 (Kd.R k31 31 w23 w.heap.size (fun k_ => some k_ ≠ (v159 : Value).ownBlock ∧ some k_ ≠ (v171 : Value).ownBlock) (.slice Ao14 t149.length co14) t149) := ⟨h0_⟩
                        have n1_ : Aside0 (Kd.R k44 44 w23 w.heap.size (fun _ => True) v153 t150) := ⟨h1_⟩
                        have n2_ : Aside0 (Kd.R k31 31 w23 w.heap.size (fun k_ => some k_ ≠ (.slice Ao14 t149.length co14 : Value).ownBlock ∧ some k_ ≠ (v171 : Value).ownBlock) v159 y158) := ⟨h2_⟩
                        have n3_ : Aside0 (Kd.R k31 31 w23 w.heap.size (fun k_ => some k_ ≠ (.slice Ao14 t149.length co14 : Value).ownBlock ∧ some k_ ≠ (v159 : Value).ownBlock) v171 y170) := ⟨h3_⟩
                        have n4_ : Aside0 (w23.heap[gb157]? = some (.cells #[.int .i64 t155, .int .i64 t156] 29 (0, 0))) := ⟨h4_⟩
                        have n5_ : Aside0 (Below w.heap.size w w23) := ⟨h5_⟩
                        clear HO152
                        clear HO154
                        clear BK157
                        clear HB
                        clear h0_ h1_ h2_ h3_ h4_ h5_
                        have HO152 := n0_
                        have HO154 := n1_
                        have HO160 := n2_
                        have HO172 := n3_
                        have BK157 := n4_
                        have HB := n5_
                        clear n0_ n1_ n2_ n3_ n4_ n5_
                        have hHeld : w23.cell? ⟨gb157, 0, none⟩ = some (.int .i64 t155) ∧ w23.cell? ⟨gb157, 1, none⟩ = some (.int .i64 t156) := hS_
                        refine norm_ (a' := ?_) ?_ ?_
                        rotate_left
                        · simp only [putAll, Act.put, List.setIfInBounds_toArray, List.set_cons_zero, List.set_cons_succ]
                          rfl
                        refine one_ (i := 5) (N := some 23) #[true, true, true, true, true, true, false, true, true, false, true, true, false, false, false] rfl rfl (one_of HT_.out (by kernel_rfl)) (by decide) (fun K hK => ?_)
                        refine Kd.R_lit_step k31 _ 31 ?hg (N := 23) ?hd (xs := ([(⟨true, (⟨t155, t156⟩ : S29)⟩ : S31)] : List (S31))) (inner := [.bool true, .int .i64 t155, .int .i64 t156]) (ok := fun _ => True) (okp := fun _ => True) ?hr ?hp (fun _ hk => hk) trivial (Below.refl _ _) (Nat.le_refl _) (by simp) ?_; (case hd => rfl); (case hg => rfl); (case hr => first | (go_simp; done) | (go_simp; rfl)); (case hp => exact (Reps.c3 (show Kd.M k31 _ _ _ (⟨true, (⟨t155, t156⟩ : S29)⟩ : S31) [.bool true, .int .i64 t155, .int .i64 t156] from (k31_mkM _ _ _ (⟨true, (⟨t155, t156⟩ : S29)⟩ : S31) )) (Reps.none _ _)))
                        intro v162 w24 ho25 hb hg_ hnew_
                        clear hg_ hnew_
                        (first | rw [← Ny161.out] at ho25 | (simp only [Int.reduceToNat] at ho25; rw [← Ny161.out] at ho25))
                        have n0_ := Aside0.mk (Kd.R_elder' (by (with_reducible repeat (first | apply Kd.R_alloc | apply Kd.R_drewN | apply Kd.R_drew)); exact HO152.out) (Kd.R_base ho25) hb)
                        have n1_ := Aside0.mk (Kd.R_below (by (with_reducible repeat (first | apply Kd.R_alloc | apply Kd.R_drewN | apply Kd.R_drew)); exact HO154.out) hb)
                        have n2_ := Aside0.mk (Kd.R_elder' (by (with_reducible repeat (first | apply Kd.R_alloc | apply Kd.R_drewN | apply Kd.R_drew)); exact HO160.out) (Kd.R_base ho25) hb)
                        have n3_ := Aside0.mk (Kd.R_elder' (by (with_reducible repeat (first | apply Kd.R_alloc | apply Kd.R_drewN | apply Kd.R_drew)); exact HO172.out) (Kd.R_base ho25) hb)
                        have n4_ := Aside0.mk (Kd.R_lower (Kd.R_new' (Kd.R_new' (Kd.R_new' ho25 (Kd.R_lt (by (with_reducible repeat (first | apply Kd.R_alloc | apply Kd.R_drewN | apply Kd.R_drew)); exact HO152.out))) (Kd.R_lt (by (with_reducible repeat (first | apply Kd.R_alloc | apply Kd.R_drewN | apply Kd.R_drew)); exact HO160.out))) (Kd.R_lt (by (with_reducible repeat (first | apply Kd.R_alloc | apply Kd.R_drewN | apply Kd.R_drew)); exact HO172.out))) (below_size (by repeat (first | (with_reducible first | exact HB.out | apply below_alloc | apply pw_below_drewN | apply below_drew1 | refine below_set ?_ GE157.out) | exact HB.out))))
                        have n5_ := Aside0.mk (blk_below (g := gb157) (o := .cells #[.int .i64 t155, .int .i64 t156] 29 (0, 0)) (by (with_reducible repeat (first | refine blk_drewN ?_ _ | refine blk_drew ?_ | refine blk_alloc ?_ _)); exact BK157.out) hb)
                        have n6_ := Aside0.mk (below_step (by repeat (first | (with_reducible first | exact HB.out | apply below_alloc | apply pw_below_drewN | apply below_drew1 | refine below_set ?_ GE157.out) | exact HB.out)) hb)
                        clear HO152
                        clear HO154
                        clear HO160
                        clear HO172
                        clear BK157
                        clear HB
                        have HO152 := n0_
                        have HO154 := n1_
                        have HO160 := n2_
                        have HO172 := n3_
                        have HO163 := n4_
                        have BK157 := n5_
                        have HB := n6_
                        clear n0_ n1_ n2_ n3_ n4_ n5_ n6_
                        clear hb ho25
                        refine hK.out _ _ ⟨(blk_cell BK157.out 0).trans rfl, (blk_cell BK157.out 1).trans rfl⟩ (fun hHeld => ?_)
                        clear hK K
                        refine norm_ (a' := ?_) ?_ ?_
                        rotate_left
                        · show Act.put _ (some 23) _ = _
                          simp only [Act.put, List.setIfInBounds_toArray, List.set_cons_zero, List.set_cons_succ, i64_w, i32_w]
                          rfl
                        exact norm_ (by first | (simp only [putAll, Act.put, List.setIfInBounds_toArray, List.set_cons_zero, List.set_cons_succ]; done) | (simp only [putAll, Act.put, List.setIfInBounds_toArray, List.set_cons_zero, List.set_cons_succ]; rfl)) (hJ2_5_11 (v159, v162, v171) _ ⟨hHeld, (by (with_reducible repeat (first | apply Kd.R_alloc | apply Kd.R_drewN | apply Kd.R_drew)); exact Kd.R_mono HO152.out (fun _ hk => ⟨hk.1.1, ⟨hk.2, hk.1.2⟩⟩)), (by (with_reducible repeat (first | apply Kd.R_alloc | apply Kd.R_drewN | apply Kd.R_drew)); exact HO154.out), (by (with_reducible repeat (first | apply Kd.R_alloc | apply Kd.R_drewN | apply Kd.R_drew)); exact Kd.R_mono HO160.out (fun _ hk => ⟨hk.1.1, ⟨hk.2, hk.1.2⟩⟩)), (by (with_reducible repeat (first | apply Kd.R_alloc | apply Kd.R_drewN | apply Kd.R_drew)); exact Kd.R_mono HO163.out (fun _ hk => ⟨hk.1.1.2, ⟨hk.1.2, hk.2⟩⟩)), (by (with_reducible repeat (first | apply Kd.R_alloc | apply Kd.R_drewN | apply Kd.R_drew)); exact Kd.R_mono HO172.out (fun _ hk => ⟨hk.1.1, ⟨hk.1.2, hk.2⟩⟩)), (by (with_reducible repeat (first | refine blk_drewN ?_ _ | refine blk_drew ?_ | refine blk_alloc ?_ _)); exact BK157.out), (by repeat (first | (with_reducible first | exact HB.out | apply below_alloc | apply pw_below_drewN | apply below_drew1 | refine below_set ?_ GE157.out) | exact HB.out))⟩)
                    · skip
                      rintro ⟨v159, v162⟩ w23 ⟨hS_, h0_, h1_, h2_, h3_, h4_, h5_⟩
                      have n0_ : Aside0 (Kd.R k31 31 w23 w.heap.size (fun k_ => some k_ ≠ (v159 : Value).ownBlock ∧ some k_ ≠ (v162 : Value).ownBlock) (.slice Ao14 t149.length co14) t149) := ⟨h0_⟩
                      have n1_ : Aside0 (Kd.R k44 44 w23 w.heap.size (fun _ => True) v153 t150) := ⟨h1_⟩
                      have n2_ : Aside0 (Kd.R k31 31 w23 w.heap.size (fun k_ => some k_ ≠ (.slice Ao14 t149.length co14 : Value).ownBlock ∧ some k_ ≠ (v162 : Value).ownBlock) v159 y158) := ⟨h2_⟩
                      have n3_ : Aside0 (Kd.R k31 31 w23 w.heap.size (fun k_ => some k_ ≠ (.slice Ao14 t149.length co14 : Value).ownBlock ∧ some k_ ≠ (v159 : Value).ownBlock) v162 y161) := ⟨h3_⟩
                      have n4_ : Aside0 (w23.heap[gb157]? = some (.cells #[.int .i64 t155, .int .i64 t156] 29 (0, 0))) := ⟨h4_⟩
                      have n5_ : Aside0 (Below w.heap.size w w23) := ⟨h5_⟩
                      clear HO152
                      clear HO154
                      clear BK157
                      clear HB
                      clear h0_ h1_ h2_ h3_ h4_ h5_
                      have HO152 := n0_
                      have HO154 := n1_
                      have HO160 := n2_
                      have HO163 := n3_
                      have BK157 := n4_
                      have HB := n5_
                      clear n0_ n1_ n2_ n3_ n4_ n5_
                      have hHeld : w23.cell? ⟨gb157, 0, none⟩ = some (.int .i64 t155) ∧ w23.cell? ⟨gb157, 1, none⟩ = some (.int .i64 t156) := hS_
                      obtain ⟨Ao25, co25, eo25⟩ := Kd.R_slice HO163.out
                      (first | subst eo25 | (injection eo25 with f1_ f2_ f3_; have f4_ := f1_.symm; have f5_ := f3_.symm; clear f1_ f2_ f3_; subst f4_; subst f5_))
                      refine norm_ (a' := ?_) ?_ ?_
                      rotate_left
                      · simp only [putAll, Act.put, List.setIfInBounds_toArray, List.set_cons_zero, List.set_cons_succ]
                        rfl
                      refine two_ (i := 6) (j := 11) (Ni := some 24) (Nj := some 29) #[true, true, true, true, true, true, true, true, true, false, true, false, false, false, false] #[true, true, true, true, true, true, false, true, true, false, true, true, false, false, false] rfl rfl rfl rfl (two_of HT_.out (by kernel_rfl)) (by decide) (by decide) (fun K hK => ?_) (fun K hK => ?_)
                      · skip
                        refine Kd.R_append_rows_step k31 (w0 := w) w.heap.size (by rfl) (.tmp 20) (.tmp 23) 24 31 (.agg #[(.bool false), (.int .i64 0), (.int .i64 0)]) 24 rfl Try.underlying24 info31 rfl (by decide) (by omega) v159 y158 y161 _ _ _ (fun k_ => some k_ ≠ (.slice Ao14 t149.length co14 : Value).ownBlock ∧ some k_ ≠ (.slice Ao25 y161.length co25 : Value).ownBlock) (fun _ => False) rfl rfl ?aO ?aR (fun _ _ h => h) (fun _ h => h.elim) ?aF ?aB ?aS ?aL ?_
                        (case aR => repeat (first | exact (Kd.R_reads' HO163.out).2.2 | (with_reducible refine Kd.C_alloc ?_ _) | (with_reducible refine Kd.C_drewN ?_ _) | (with_reducible refine Kd.C_drew ?_)))
                        (case aB => exact (by repeat (first | (with_reducible first | exact HB.out | apply below_alloc | apply pw_below_drewN | apply below_drew1 | refine below_set ?_ GE157.out) | exact HB.out)))
                        (case aF => exact (fun k_ hk => ⟨Kd.fresh' (Kd.R_lt (by (with_reducible repeat (first | apply Kd.R_alloc | apply Kd.R_drewN | apply Kd.R_drew)); exact HO152.out)) k_ hk, Kd.fresh' (Kd.R_lt (by (with_reducible repeat (first | apply Kd.R_alloc | apply Kd.R_drewN | apply Kd.R_drew)); exact HO163.out)) k_ hk⟩))
                        (case aO => exact (by (with_reducible repeat (first | apply Kd.R_alloc | apply Kd.R_drewN | apply Kd.R_drew)); exact HO160.out))
                        (case aS => exact (below_size (by repeat (first | (with_reducible first | exact HB.out | apply below_alloc | apply pw_below_drewN | apply below_drew1 | refine below_set ?_ GE157.out) | exact HB.out))))
                        (case aL => have := LMc7.out; omega)
                        intro v165 w24 ho hb hg hat
                        rw [← Ny164.out] at ho
                        have n0_ := Aside0.mk (Kd.R_after (ok := (fun k_ => some k_ ≠ (.slice Ao25 y161.length co25 : Value).ownBlock)) (by (with_reducible repeat (first | apply Kd.R_alloc | apply Kd.R_drewN | apply Kd.R_drew)); exact Kd.R_mono HO152.out (fun _ hk => ⟨hk.2, hk.1⟩)) hg hat)
                        have n1_ := Aside0.mk (Kd.R_over' (by (with_reducible repeat (first | apply Kd.R_alloc | apply Kd.R_drewN | apply Kd.R_drew)); exact HO154.out) (Kd.R_typed (by (with_reducible repeat (first | apply Kd.R_alloc | apply Kd.R_drewN | apply Kd.R_drew)); exact HO160.out)) (by decide) hg)
                        have n2_ := Aside0.mk (blk_grown (g := gb157) (o := .cells #[.int .i64 t155, .int .i64 t156] 29 (0, 0)) (by (with_reducible repeat (first | refine blk_drewN ?_ _ | refine blk_drew ?_ | refine blk_alloc ?_ _)); exact BK157.out) hg (Kd.R_ne HO160.out BK157.out (by decide)))
                        have n3_ := Aside0.mk (Kd.R_after (ok := (fun k_ => some k_ ≠ (.slice Ao14 t149.length co14 : Value).ownBlock)) (by (with_reducible repeat (first | apply Kd.R_alloc | apply Kd.R_drewN | apply Kd.R_drew)); exact HO163.out) hg hat)
                        have n4_ := Aside0.mk (hb)
                        have n5_ := Aside0.mk (ho)
                        clear HO152
                        clear HO154
                        clear BK157
                        clear HO163
                        clear HB
                        clear HO160
                        have HO152 := n0_
                        have HO154 := n1_
                        have BK157 := n2_
                        have HO163 := n3_
                        have HB := n4_
                        have HO166 := n5_
                        clear n0_ n1_ n2_ n3_ n4_ n5_
                        clear ho hb hg hat
                        refine hK.out _ _ ⟨(blk_cell BK157.out 0).trans rfl, (blk_cell BK157.out 1).trans rfl⟩ (fun hHeld => ?_)
                        clear hK K
                        refine norm_ (a' := ?_) ?_ ?_
                        rotate_left
                        · show Act.put _ (some 24) _ = _
                          simp only [Act.put, List.setIfInBounds_toArray, List.set_cons_zero, List.set_cons_succ, i64_w, i32_w]
                          rfl
                        exact norm_ (by first | (simp only [putAll, Act.put, List.setIfInBounds_toArray, List.set_cons_zero, List.set_cons_succ]; done) | (simp only [putAll, Act.put, List.setIfInBounds_toArray, List.set_cons_zero, List.set_cons_succ]; rfl)) (hJ2_5_6 (v159, .slice Ao25 y161.length co25, v165) _ ⟨hHeld, (by (with_reducible repeat (first | apply Kd.R_alloc | apply Kd.R_drewN | apply Kd.R_drew)); exact HO152.out), (by (with_reducible repeat (first | apply Kd.R_alloc | apply Kd.R_drewN | apply Kd.R_drew)); exact HO154.out), (by (with_reducible repeat (first | apply Kd.R_alloc | apply Kd.R_drewN | apply Kd.R_drew)); exact HO163.out), (by (with_reducible repeat (first | apply Kd.R_alloc | apply Kd.R_drewN | apply Kd.R_drew)); exact HO166.out), (by (with_reducible repeat (first | refine blk_drewN ?_ _ | refine blk_drew ?_ | refine blk_alloc ?_ _)); exact BK157.out), (by repeat (first | (with_reducible first | exact HB.out | apply below_alloc | apply pw_below_drewN | apply below_drew1 | refine below_set ?_ GE157.out) | exact HB.out))⟩)
                      · skip
                        refine Kd.R_lit_step k31 _ 31 ?hg (N := 29) ?hd (xs := ([(⟨false, (⟨0, 0⟩ : S29)⟩ : S31)] : List (S31))) (inner := [.bool false, .int .i64 0, .int .i64 0]) (ok := fun _ => True) (okp := fun _ => True) ?hr ?hp (fun _ hk => hk) trivial (Below.refl _ _) (Nat.le_refl _) (by simp) ?_; (case hd => rfl); (case hg => rfl); (case hr => first | (go_simp; done) | (go_simp; rfl)); (case hp => exact (Reps.c3 (show Kd.M k31 _ _ _ (⟨false, (⟨0, 0⟩ : S29)⟩ : S31) [.bool false, .int .i64 0, .int .i64 0] from (k31_mkM _ _ _ (⟨false, (⟨0, 0⟩ : S29)⟩ : S31) )) (Reps.none _ _)))
                        intro v171 w24 ho25 hb hg_ hnew_
                        clear hg_ hnew_
                        (first | rw [← Ny170.out] at ho25 | (simp only [Int.reduceToNat] at ho25; rw [← Ny170.out] at ho25))
                        have n0_ := Aside0.mk (Kd.R_elder' (by (with_reducible repeat (first | apply Kd.R_alloc | apply Kd.R_drewN | apply Kd.R_drew)); exact HO152.out) (Kd.R_base ho25) hb)
                        have n1_ := Aside0.mk (Kd.R_below (by (with_reducible repeat (first | apply Kd.R_alloc | apply Kd.R_drewN | apply Kd.R_drew)); exact HO154.out) hb)
                        have n2_ := Aside0.mk (Kd.R_elder' (by (with_reducible repeat (first | apply Kd.R_alloc | apply Kd.R_drewN | apply Kd.R_drew)); exact HO160.out) (Kd.R_base ho25) hb)
                        have n3_ := Aside0.mk (Kd.R_elder' (by (with_reducible repeat (first | apply Kd.R_alloc | apply Kd.R_drewN | apply Kd.R_drew)); exact HO163.out) (Kd.R_base ho25) hb)
                        have n4_ := Aside0.mk (Kd.R_lower (Kd.R_new' (Kd.R_new' (Kd.R_new' ho25 (Kd.R_lt (by (with_reducible repeat (first | apply Kd.R_alloc | apply Kd.R_drewN | apply Kd.R_drew)); exact HO152.out))) (Kd.R_lt (by (with_reducible repeat (first | apply Kd.R_alloc | apply Kd.R_drewN | apply Kd.R_drew)); exact HO160.out))) (Kd.R_lt (by (with_reducible repeat (first | apply Kd.R_alloc | apply Kd.R_drewN | apply Kd.R_drew)); exact HO163.out))) (below_size (by repeat (first | (with_reducible first | exact HB.out | apply below_alloc | apply pw_below_drewN | apply below_drew1 | refine below_set ?_ GE157.out) | exact HB.out))))
                        have n5_ := Aside0.mk (blk_below (g := gb157) (o := .cells #[.int .i64 t155, .int .i64 t156] 29 (0, 0)) (by (with_reducible repeat (first | refine blk_drewN ?_ _ | refine blk_drew ?_ | refine blk_alloc ?_ _)); exact BK157.out) hb)
                        have n6_ := Aside0.mk (below_step (by repeat (first | (with_reducible first | exact HB.out | apply below_alloc | apply pw_below_drewN | apply below_drew1 | refine below_set ?_ GE157.out) | exact HB.out)) hb)
                        clear HO152
                        clear HO154
                        clear HO160
                        clear HO163
                        clear BK157
                        clear HB
                        have HO152 := n0_
                        have HO154 := n1_
                        have HO160 := n2_
                        have HO163 := n3_
                        have HO172 := n4_
                        have BK157 := n5_
                        have HB := n6_
                        clear n0_ n1_ n2_ n3_ n4_ n5_ n6_
                        clear hb ho25
                        refine hK.out _ _ ⟨(blk_cell BK157.out 0).trans rfl, (blk_cell BK157.out 1).trans rfl⟩ (fun hHeld => ?_)
                        clear hK K
                        refine norm_ (a' := ?_) ?_ ?_
                        rotate_left
                        · show Act.put _ (some 29) _ = _
                          simp only [Act.put, List.setIfInBounds_toArray, List.set_cons_zero, List.set_cons_succ, i64_w, i32_w]
                          rfl
                        exact norm_ (by first | (simp only [putAll, Act.put, List.setIfInBounds_toArray, List.set_cons_zero, List.set_cons_succ]; done) | (simp only [putAll, Act.put, List.setIfInBounds_toArray, List.set_cons_zero, List.set_cons_succ]; rfl)) (hJ2_5_11 (v159, .slice Ao25 y161.length co25, v171) _ ⟨hHeld, (by (with_reducible repeat (first | apply Kd.R_alloc | apply Kd.R_drewN | apply Kd.R_drew)); exact Kd.R_mono HO152.out (fun _ hk => ⟨hk.1.1, ⟨hk.1.2, hk.2⟩⟩)), (by (with_reducible repeat (first | apply Kd.R_alloc | apply Kd.R_drewN | apply Kd.R_drew)); exact HO154.out), (by (with_reducible repeat (first | apply Kd.R_alloc | apply Kd.R_drewN | apply Kd.R_drew)); exact Kd.R_mono HO160.out (fun _ hk => ⟨hk.1.1, ⟨hk.1.2, hk.2⟩⟩)), (by (with_reducible repeat (first | apply Kd.R_alloc | apply Kd.R_drewN | apply Kd.R_drew)); exact Kd.R_mono HO163.out (fun _ hk => ⟨hk.1.1, ⟨hk.1.2, hk.2⟩⟩)), (by (with_reducible repeat (first | apply Kd.R_alloc | apply Kd.R_drewN | apply Kd.R_drew)); exact Kd.R_mono HO172.out (fun _ hk => ⟨hk.1.1.2, ⟨hk.1.2, hk.2⟩⟩)), (by (with_reducible repeat (first | refine blk_drewN ?_ _ | refine blk_drew ?_ | refine blk_alloc ?_ _)); exact BK157.out), (by repeat (first | (with_reducible first | exact HB.out | apply below_alloc | apply pw_below_drewN | apply below_drew1 | refine below_set ?_ GE157.out) | exact HB.out))⟩)
                  · skip
                    rintro ⟨v159, v162, v171⟩ w25 ⟨hS_, h0_, h1_, h2_, h3_, h4_, h5_, h6_⟩
                    have n0_ : Aside0 (Kd.R k31 31 w25 w.heap.size (fun k_ => some k_ ≠ (v159 : Value).ownBlock ∧ some k_ ≠ (v162 : Value).ownBlock ∧ some k_ ≠ (v171 : Value).ownBlock) (.slice Ao14 t149.length co14) t149) := ⟨h0_⟩
                    have n1_ : Aside0 (Kd.R k44 44 w25 w.heap.size (fun _ => True) v153 t150) := ⟨h1_⟩
                    have n2_ : Aside0 (Kd.R k31 31 w25 w.heap.size (fun k_ => some k_ ≠ (.slice Ao14 t149.length co14 : Value).ownBlock ∧ some k_ ≠ (v162 : Value).ownBlock ∧ some k_ ≠ (v171 : Value).ownBlock) v159 y158) := ⟨h2_⟩
                    have n3_ : Aside0 (Kd.R k31 31 w25 w.heap.size (fun k_ => some k_ ≠ (.slice Ao14 t149.length co14 : Value).ownBlock ∧ some k_ ≠ (v159 : Value).ownBlock ∧ some k_ ≠ (v171 : Value).ownBlock) v162 y161) := ⟨h3_⟩
                    have n4_ : Aside0 (Kd.R k31 31 w25 w.heap.size (fun k_ => some k_ ≠ (.slice Ao14 t149.length co14 : Value).ownBlock ∧ some k_ ≠ (v159 : Value).ownBlock ∧ some k_ ≠ (v162 : Value).ownBlock) v171 y170) := ⟨h4_⟩
                    have n5_ : Aside0 (w25.heap[gb157]? = some (.cells #[.int .i64 t155, .int .i64 t156] 29 (0, 0))) := ⟨h5_⟩
                    have n6_ : Aside0 (Below w.heap.size w w25) := ⟨h6_⟩
                    clear HO152
                    clear HO154
                    clear BK157
                    clear HB
                    clear h0_ h1_ h2_ h3_ h4_ h5_ h6_
                    have HO152 := n0_
                    have HO154 := n1_
                    have HO160 := n2_
                    have HO163 := n3_
                    have HO172 := n4_
                    have BK157 := n5_
                    have HB := n6_
                    clear n0_ n1_ n2_ n3_ n4_ n5_ n6_
                    have hHeld : w25.cell? ⟨gb157, 0, none⟩ = some (.int .i64 t155) ∧ w25.cell? ⟨gb157, 1, none⟩ = some (.int .i64 t156) := hS_
                    obtain ⟨Ao27, co27, eo27⟩ := Kd.R_slice HO163.out
                    (first | subst eo27 | (injection eo27 with f1_ f2_ f3_; have f4_ := f1_.symm; have f5_ := f3_.symm; clear f1_ f2_ f3_; subst f4_; subst f5_))
                    refine norm_ (a' := ?_) ?_ ?_
                    rotate_left
                    · simp only [putAll, Act.put, List.setIfInBounds_toArray, List.set_cons_zero, List.set_cons_succ]
                      rfl
                    refine one_ (i := 6) (N := some 24) #[true, true, true, true, true, true, true, true, true, false, true, true, false, false, false] rfl rfl (one_of HT_.out (by kernel_rfl)) (by decide) (fun K hK => ?_)
                    refine Kd.R_append_rows_step k31 (w0 := w) w.heap.size (by rfl) (.tmp 20) (.tmp 23) 24 31 (.agg #[(.bool false), (.int .i64 0), (.int .i64 0)]) 24 rfl Try.underlying24 info31 rfl (by decide) (by omega) v159 y158 y161 _ _ _ (fun k_ => some k_ ≠ (.slice Ao14 t149.length co14 : Value).ownBlock ∧ some k_ ≠ (.slice Ao27 y161.length co27 : Value).ownBlock ∧ some k_ ≠ (v171 : Value).ownBlock) (fun _ => False) rfl rfl ?aO ?aR (fun _ _ h => h) (fun _ h => h.elim) ?aF ?aB ?aS ?aL ?_
                    (case aR => repeat (first | exact (Kd.R_reads' HO163.out).2.2 | (with_reducible refine Kd.C_alloc ?_ _) | (with_reducible refine Kd.C_drewN ?_ _) | (with_reducible refine Kd.C_drew ?_)))
                    (case aB => exact (by repeat (first | (with_reducible first | exact HB.out | apply below_alloc | apply pw_below_drewN | apply below_drew1 | refine below_set ?_ GE157.out) | exact HB.out)))
                    (case aF => exact (fun k_ hk => ⟨Kd.fresh' (Kd.R_lt (by (with_reducible repeat (first | apply Kd.R_alloc | apply Kd.R_drewN | apply Kd.R_drew)); exact HO152.out)) k_ hk, Kd.fresh' (Kd.R_lt (by (with_reducible repeat (first | apply Kd.R_alloc | apply Kd.R_drewN | apply Kd.R_drew)); exact HO163.out)) k_ hk, Kd.fresh' (Kd.R_lt (by (with_reducible repeat (first | apply Kd.R_alloc | apply Kd.R_drewN | apply Kd.R_drew)); exact HO172.out)) k_ hk⟩))
                    (case aO => exact (by (with_reducible repeat (first | apply Kd.R_alloc | apply Kd.R_drewN | apply Kd.R_drew)); exact HO160.out))
                    (case aS => exact (below_size (by repeat (first | (with_reducible first | exact HB.out | apply below_alloc | apply pw_below_drewN | apply below_drew1 | refine below_set ?_ GE157.out) | exact HB.out))))
                    (case aL => have := LMc7.out; omega)
                    intro v165 w26 ho hb hg hat
                    rw [← Ny164.out] at ho
                    have n0_ := Aside0.mk (Kd.R_after (ok := (fun k_ => some k_ ≠ (.slice Ao27 y161.length co27 : Value).ownBlock ∧ some k_ ≠ (v171 : Value).ownBlock)) (by (with_reducible repeat (first | apply Kd.R_alloc | apply Kd.R_drewN | apply Kd.R_drew)); exact Kd.R_mono HO152.out (fun _ hk => ⟨⟨hk.2.1, hk.2.2⟩, hk.1⟩)) hg hat)
                    have n1_ := Aside0.mk (Kd.R_over' (by (with_reducible repeat (first | apply Kd.R_alloc | apply Kd.R_drewN | apply Kd.R_drew)); exact HO154.out) (Kd.R_typed (by (with_reducible repeat (first | apply Kd.R_alloc | apply Kd.R_drewN | apply Kd.R_drew)); exact HO160.out)) (by decide) hg)
                    have n2_ := Aside0.mk (blk_grown (g := gb157) (o := .cells #[.int .i64 t155, .int .i64 t156] 29 (0, 0)) (by (with_reducible repeat (first | refine blk_drewN ?_ _ | refine blk_drew ?_ | refine blk_alloc ?_ _)); exact BK157.out) hg (Kd.R_ne HO160.out BK157.out (by decide)))
                    have n3_ := Aside0.mk (Kd.R_after (ok := (fun k_ => some k_ ≠ (.slice Ao14 t149.length co14 : Value).ownBlock ∧ some k_ ≠ (v171 : Value).ownBlock)) (by (with_reducible repeat (first | apply Kd.R_alloc | apply Kd.R_drewN | apply Kd.R_drew)); exact Kd.R_mono HO163.out (fun _ hk => ⟨⟨hk.1, hk.2.2⟩, hk.2.1⟩)) hg hat)
                    have n4_ := Aside0.mk (Kd.R_after (ok := (fun k_ => some k_ ≠ (.slice Ao14 t149.length co14 : Value).ownBlock ∧ some k_ ≠ (.slice Ao27 y161.length co27 : Value).ownBlock)) (by (with_reducible repeat (first | apply Kd.R_alloc | apply Kd.R_drewN | apply Kd.R_drew)); exact Kd.R_mono HO172.out (fun _ hk => ⟨⟨hk.1, hk.2.2⟩, hk.2.1⟩)) hg hat)
                    have n5_ := Aside0.mk (hb)
                    have n6_ := Aside0.mk (ho)
                    clear HO152
                    clear HO154
                    clear BK157
                    clear HO163
                    clear HO172
                    clear HB
                    clear HO160
                    have HO152 := n0_
                    have HO154 := n1_
                    have BK157 := n2_
                    have HO163 := n3_
                    have HO172 := n4_
                    have HB := n5_
                    have HO166 := n6_
                    clear n0_ n1_ n2_ n3_ n4_ n5_ n6_
                    clear ho hb hg hat
                    refine hK.out _ _ ⟨(blk_cell BK157.out 0).trans rfl, (blk_cell BK157.out 1).trans rfl⟩ (fun hHeld => ?_)
                    clear hK K
                    refine norm_ (a' := ?_) ?_ ?_
                    rotate_left
                    · show Act.put _ (some 24) _ = _
                      simp only [Act.put, List.setIfInBounds_toArray, List.set_cons_zero, List.set_cons_succ, i64_w, i32_w]
                      rfl
                    exact norm_ (by first | (simp only [putAll, Act.put, List.setIfInBounds_toArray, List.set_cons_zero, List.set_cons_succ]; done) | (simp only [putAll, Act.put, List.setIfInBounds_toArray, List.set_cons_zero, List.set_cons_succ]; rfl)) (hJ2_5_6_11 (v159, .slice Ao27 y161.length co27, v165, v171) _ ⟨hHeld, (by (with_reducible repeat (first | apply Kd.R_alloc | apply Kd.R_drewN | apply Kd.R_drew)); exact Kd.R_mono HO152.out (fun _ hk => ⟨hk.1.1, ⟨hk.2, hk.1.2⟩⟩)), (by (with_reducible repeat (first | apply Kd.R_alloc | apply Kd.R_drewN | apply Kd.R_drew)); exact HO154.out), (by (with_reducible repeat (first | apply Kd.R_alloc | apply Kd.R_drewN | apply Kd.R_drew)); exact Kd.R_mono HO163.out (fun _ hk => ⟨hk.1.1, ⟨hk.2, hk.1.2⟩⟩)), (by (with_reducible repeat (first | apply Kd.R_alloc | apply Kd.R_drewN | apply Kd.R_drew)); exact HO166.out), (by (with_reducible repeat (first | apply Kd.R_alloc | apply Kd.R_drewN | apply Kd.R_drew)); exact Kd.R_mono HO172.out (fun _ hk => ⟨hk.1.1, ⟨hk.1.2, hk.2⟩⟩)), (by (with_reducible repeat (first | refine blk_drewN ?_ _ | refine blk_drew ?_ | refine blk_alloc ?_ _)); exact BK157.out), (by repeat (first | (with_reducible first | exact HB.out | apply below_alloc | apply pw_below_drewN | apply below_drew1 | refine below_set ?_ GE157.out) | exact HB.out))⟩)
                · skip
                  rintro ⟨v159, v162, v165⟩ w25 ⟨hS_, h0_, h1_, h2_, h3_, h4_, h5_⟩
                  have n0_ : Aside0 (Kd.R k31 31 w25 w.heap.size (fun k_ => some k_ ≠ (v162 : Value).ownBlock ∧ some k_ ≠ (v165 : Value).ownBlock) (.slice Ao14 t149.length co14) t149) := ⟨h0_⟩
                  have n1_ : Aside0 (Kd.R k44 44 w25 w.heap.size (fun _ => True) v153 t150) := ⟨h1_⟩
                  have n2_ : Aside0 (Kd.R k31 31 w25 w.heap.size (fun k_ => some k_ ≠ (.slice Ao14 t149.length co14 : Value).ownBlock ∧ some k_ ≠ (v165 : Value).ownBlock) v162 y161) := ⟨h2_⟩
                  have n3_ : Aside0 (Kd.R k31 31 w25 w.heap.size (fun k_ => some k_ ≠ (.slice Ao14 t149.length co14 : Value).ownBlock ∧ some k_ ≠ (v162 : Value).ownBlock) v165 y164) := ⟨h3_⟩
                  have n4_ : Aside0 (w25.heap[gb157]? = some (.cells #[.int .i64 t155, .int .i64 t156] 29 (0, 0))) := ⟨h4_⟩
                  have n5_ : Aside0 (Below w.heap.size w w25) := ⟨h5_⟩
                  clear HO152
                  clear HO154
                  clear BK157
                  clear HB
                  clear h0_ h1_ h2_ h3_ h4_ h5_
                  have HO152 := n0_
                  have HO154 := n1_
                  have HO163 := n2_
                  have HO166 := n3_
                  have BK157 := n4_
                  have HB := n5_
                  clear n0_ n1_ n2_ n3_ n4_ n5_
                  have hHeld : w25.cell? ⟨gb157, 0, none⟩ = some (.int .i64 t155) ∧ w25.cell? ⟨gb157, 1, none⟩ = some (.int .i64 t156) := hS_
                  refine norm_ (a' := ?_) ?_ ?_
                  rotate_left
                  · simp only [putAll, Act.put, List.setIfInBounds_toArray, List.set_cons_zero, List.set_cons_succ]
                    rfl
                  refine two_ (i := 9) (j := 11) (Ni := some 27) (Nj := some 29) #[true, true, true, true, true, true, true, true, true, true, true, false, false, false, false] #[true, true, true, true, true, true, true, true, true, false, true, true, false, false, false] rfl rfl rfl rfl (two_of HT_.out (by kernel_rfl)) (by decide) (by decide) (fun K hK => ?_) (fun K hK => ?_)
                  · skip
                    refine Kd.R_append_rows_step k31 (w0 := w) w.heap.size (by rfl) (.tmp 25) (.tmp 26) 24 31 (.agg #[(.bool false), (.int .i64 0), (.int .i64 0)]) 24 rfl Try.underlying24 info31 rfl (by decide) (by omega) (.slice none 0 0) ([] : List (S31)) t149 _ _ _ (fun k_ => some k_ ≠ (.slice Ao14 t149.length co14 : Value).ownBlock ∧ some k_ ≠ (v162 : Value).ownBlock ∧ some k_ ≠ (v165 : Value).ownBlock) (fun _ => False) rfl rfl ?aO ?aR (fun _ _ h => h) (fun _ h => h.elim) ?aF ?aB ?aS ?aL ?_
                    (case aR => repeat (first | exact (Kd.R_reads' HO152.out).2.2 | (with_reducible refine Kd.C_alloc ?_ _) | (with_reducible refine Kd.C_drewN ?_ _) | (with_reducible refine Kd.C_drew ?_)))
                    (case aB => exact (by repeat (first | (with_reducible first | exact HB.out | apply below_alloc | apply pw_below_drewN | apply below_drew1 | refine below_set ?_ GE157.out) | exact HB.out)))
                    (case aF => exact (fun k_ hk => ⟨Kd.fresh' (Kd.R_lt (by (with_reducible repeat (first | apply Kd.R_alloc | apply Kd.R_drewN | apply Kd.R_drew)); exact HO152.out)) k_ hk, Kd.fresh' (Kd.R_lt (by (with_reducible repeat (first | apply Kd.R_alloc | apply Kd.R_drewN | apply Kd.R_drew)); exact HO163.out)) k_ hk, Kd.fresh' (Kd.R_lt (by (with_reducible repeat (first | apply Kd.R_alloc | apply Kd.R_drewN | apply Kd.R_drew)); exact HO166.out)) k_ hk⟩))
                    (case aO => exact ((Kd.R_nil _ _ _ _ (fun k_ => some k_ ≠ (.slice Ao14 t149.length co14 : Value).ownBlock ∧ some k_ ≠ (v162 : Value).ownBlock ∧ some k_ ≠ (v165 : Value).ownBlock))))
                    (case aS => exact (below_size (by repeat (first | (with_reducible first | exact HB.out | apply below_alloc | apply pw_below_drewN | apply below_drew1 | refine below_set ?_ GE157.out) | exact HB.out))))
                    (case aL => have := LMc6.out; omega)
                    intro v168 w26 ho hb hg hat
                    rw [← Ny167.out] at ho
                    have n0_ := Aside0.mk (Kd.R_after (Kd.R_apart_nil (by (with_reducible repeat (first | apply Kd.R_alloc | apply Kd.R_drewN | apply Kd.R_drew)); exact HO152.out)) hg hat)
                    have n1_ := Aside0.mk (Kd.R_grown (by (with_reducible repeat (first | apply Kd.R_alloc | apply Kd.R_drewN | apply Kd.R_drew)); exact HO154.out) hg (fun _ _ => by simp [Value.ownBlock]))
                    have n2_ := Aside0.mk (blk_grown (g := gb157) (o := .cells #[.int .i64 t155, .int .i64 t156] 29 (0, 0)) (by (with_reducible repeat (first | refine blk_drewN ?_ _ | refine blk_drew ?_ | refine blk_alloc ?_ _)); exact BK157.out) hg (by simp [Value.ownBlock]))
                    have n3_ := Aside0.mk (Kd.R_after (Kd.R_apart_nil (by (with_reducible repeat (first | apply Kd.R_alloc | apply Kd.R_drewN | apply Kd.R_drew)); exact HO163.out)) hg hat)
                    have n4_ := Aside0.mk (Kd.R_after (Kd.R_apart_nil (by (with_reducible repeat (first | apply Kd.R_alloc | apply Kd.R_drewN | apply Kd.R_drew)); exact HO166.out)) hg hat)
                    have n5_ := Aside0.mk (hb)
                    have n6_ := Aside0.mk (ho)
                    clear HO152
                    clear HO154
                    clear BK157
                    clear HO163
                    clear HO166
                    clear HB
                    have HO152 := n0_
                    have HO154 := n1_
                    have BK157 := n2_
                    have HO163 := n3_
                    have HO166 := n4_
                    have HB := n5_
                    have HO169 := n6_
                    clear n0_ n1_ n2_ n3_ n4_ n5_ n6_
                    clear ho hb hg hat
                    refine hK.out _ _ ⟨(blk_cell BK157.out 0).trans rfl, (blk_cell BK157.out 1).trans rfl⟩ (fun hHeld => ?_)
                    clear hK K
                    refine norm_ (a' := ?_) ?_ ?_
                    rotate_left
                    · show Act.put _ (some 27) _ = _
                      simp only [Act.put, List.setIfInBounds_toArray, List.set_cons_zero, List.set_cons_succ, i64_w, i32_w]
                      rfl
                    exact norm_ (by first | (simp only [putAll, Act.put, List.setIfInBounds_toArray, List.set_cons_zero, List.set_cons_succ]; done) | (simp only [putAll, Act.put, List.setIfInBounds_toArray, List.set_cons_zero, List.set_cons_succ]; rfl)) (hJ2_5_6_9 (v159, v162, v165, v168) _ ⟨hHeld, (by (with_reducible repeat (first | apply Kd.R_alloc | apply Kd.R_drewN | apply Kd.R_drew)); exact Kd.R_mono HO152.out (fun _ hk => ⟨hk.1.1, ⟨hk.1.2, hk.2⟩⟩)), (by (with_reducible repeat (first | apply Kd.R_alloc | apply Kd.R_drewN | apply Kd.R_drew)); exact HO154.out), (by (with_reducible repeat (first | apply Kd.R_alloc | apply Kd.R_drewN | apply Kd.R_drew)); exact Kd.R_mono HO163.out (fun _ hk => ⟨hk.1.1, ⟨hk.1.2, hk.2⟩⟩)), (by (with_reducible repeat (first | apply Kd.R_alloc | apply Kd.R_drewN | apply Kd.R_drew)); exact Kd.R_mono HO166.out (fun _ hk => ⟨hk.1.1, ⟨hk.1.2, hk.2⟩⟩)), (by (with_reducible repeat (first | apply Kd.R_alloc | apply Kd.R_drewN | apply Kd.R_drew)); exact HO169.out), (by (with_reducible repeat (first | refine blk_drewN ?_ _ | refine blk_drew ?_ | refine blk_alloc ?_ _)); exact BK157.out), (by repeat (first | (with_reducible first | exact HB.out | apply below_alloc | apply pw_below_drewN | apply below_drew1 | refine below_set ?_ GE157.out) | exact HB.out))⟩)
                  · skip
                    refine Kd.R_lit_step k31 _ 31 ?hg (N := 29) ?hd (xs := ([(⟨false, (⟨0, 0⟩ : S29)⟩ : S31)] : List (S31))) (inner := [.bool false, .int .i64 0, .int .i64 0]) (ok := fun _ => True) (okp := fun _ => True) ?hr ?hp (fun _ hk => hk) trivial (Below.refl _ _) (Nat.le_refl _) (by simp) ?_; (case hd => rfl); (case hg => rfl); (case hr => first | (go_simp; done) | (go_simp; rfl)); (case hp => exact (Reps.c3 (show Kd.M k31 _ _ _ (⟨false, (⟨0, 0⟩ : S29)⟩ : S31) [.bool false, .int .i64 0, .int .i64 0] from (k31_mkM _ _ _ (⟨false, (⟨0, 0⟩ : S29)⟩ : S31) )) (Reps.none _ _)))
                    intro v171 w26 ho27 hb hg_ hnew_
                    clear hg_ hnew_
                    (first | rw [← Ny170.out] at ho27 | (simp only [Int.reduceToNat] at ho27; rw [← Ny170.out] at ho27))
                    have n0_ := Aside0.mk (Kd.R_elder' (by (with_reducible repeat (first | apply Kd.R_alloc | apply Kd.R_drewN | apply Kd.R_drew)); exact HO152.out) (Kd.R_base ho27) hb)
                    have n1_ := Aside0.mk (Kd.R_below (by (with_reducible repeat (first | apply Kd.R_alloc | apply Kd.R_drewN | apply Kd.R_drew)); exact HO154.out) hb)
                    have n2_ := Aside0.mk (Kd.R_elder' (by (with_reducible repeat (first | apply Kd.R_alloc | apply Kd.R_drewN | apply Kd.R_drew)); exact HO163.out) (Kd.R_base ho27) hb)
                    have n3_ := Aside0.mk (Kd.R_elder' (by (with_reducible repeat (first | apply Kd.R_alloc | apply Kd.R_drewN | apply Kd.R_drew)); exact HO166.out) (Kd.R_base ho27) hb)
                    have n4_ := Aside0.mk (Kd.R_lower (Kd.R_new' (Kd.R_new' (Kd.R_new' ho27 (Kd.R_lt (by (with_reducible repeat (first | apply Kd.R_alloc | apply Kd.R_drewN | apply Kd.R_drew)); exact HO152.out))) (Kd.R_lt (by (with_reducible repeat (first | apply Kd.R_alloc | apply Kd.R_drewN | apply Kd.R_drew)); exact HO163.out))) (Kd.R_lt (by (with_reducible repeat (first | apply Kd.R_alloc | apply Kd.R_drewN | apply Kd.R_drew)); exact HO166.out))) (below_size (by repeat (first | (with_reducible first | exact HB.out | apply below_alloc | apply pw_below_drewN | apply below_drew1 | refine below_set ?_ GE157.out) | exact HB.out))))
                    have n5_ := Aside0.mk (blk_below (g := gb157) (o := .cells #[.int .i64 t155, .int .i64 t156] 29 (0, 0)) (by (with_reducible repeat (first | refine blk_drewN ?_ _ | refine blk_drew ?_ | refine blk_alloc ?_ _)); exact BK157.out) hb)
                    have n6_ := Aside0.mk (below_step (by repeat (first | (with_reducible first | exact HB.out | apply below_alloc | apply pw_below_drewN | apply below_drew1 | refine below_set ?_ GE157.out) | exact HB.out)) hb)
                    clear HO152
                    clear HO154
                    clear HO163
                    clear HO166
                    clear BK157
                    clear HB
                    have HO152 := n0_
                    have HO154 := n1_
                    have HO163 := n2_
                    have HO166 := n3_
                    have HO172 := n4_
                    have BK157 := n5_
                    have HB := n6_
                    clear n0_ n1_ n2_ n3_ n4_ n5_ n6_
                    clear hb ho27
                    refine hK.out _ _ ⟨(blk_cell BK157.out 0).trans rfl, (blk_cell BK157.out 1).trans rfl⟩ (fun hHeld => ?_)
                    clear hK K
                    refine norm_ (a' := ?_) ?_ ?_
                    rotate_left
                    · show Act.put _ (some 29) _ = _
                      simp only [Act.put, List.setIfInBounds_toArray, List.set_cons_zero, List.set_cons_succ, i64_w, i32_w]
                      rfl
                    exact norm_ (by first | (simp only [putAll, Act.put, List.setIfInBounds_toArray, List.set_cons_zero, List.set_cons_succ]; done) | (simp only [putAll, Act.put, List.setIfInBounds_toArray, List.set_cons_zero, List.set_cons_succ]; rfl)) (hJ2_5_6_11 (v159, v162, v165, v171) _ ⟨hHeld, (by (with_reducible repeat (first | apply Kd.R_alloc | apply Kd.R_drewN | apply Kd.R_drew)); exact Kd.R_mono HO152.out (fun _ hk => ⟨hk.1.1, ⟨hk.1.2, hk.2⟩⟩)), (by (with_reducible repeat (first | apply Kd.R_alloc | apply Kd.R_drewN | apply Kd.R_drew)); exact HO154.out), (by (with_reducible repeat (first | apply Kd.R_alloc | apply Kd.R_drewN | apply Kd.R_drew)); exact Kd.R_mono HO163.out (fun _ hk => ⟨hk.1.1, ⟨hk.1.2, hk.2⟩⟩)), (by (with_reducible repeat (first | apply Kd.R_alloc | apply Kd.R_drewN | apply Kd.R_drew)); exact Kd.R_mono HO166.out (fun _ hk => ⟨hk.1.1, ⟨hk.1.2, hk.2⟩⟩)), (by (with_reducible repeat (first | apply Kd.R_alloc | apply Kd.R_drewN | apply Kd.R_drew)); exact Kd.R_mono HO172.out (fun _ hk => ⟨hk.1.1.2, ⟨hk.1.2, hk.2⟩⟩)), (by (with_reducible repeat (first | refine blk_drewN ?_ _ | refine blk_drew ?_ | refine blk_alloc ?_ _)); exact BK157.out), (by repeat (first | (with_reducible first | exact HB.out | apply below_alloc | apply pw_below_drewN | apply below_drew1 | refine below_set ?_ GE157.out) | exact HB.out))⟩)
              · skip
                rintro ⟨v159, v162, v165, v171⟩ w27 ⟨hS_, h0_, h1_, h2_, h3_, h4_, h5_, h6_⟩
                have n0_ : Aside0 (Kd.R k31 31 w27 w.heap.size (fun k_ => some k_ ≠ (v162 : Value).ownBlock ∧ some k_ ≠ (v165 : Value).ownBlock ∧ some k_ ≠ (v171 : Value).ownBlock) (.slice Ao14 t149.length co14) t149) := ⟨h0_⟩
                have n1_ : Aside0 (Kd.R k44 44 w27 w.heap.size (fun _ => True) v153 t150) := ⟨h1_⟩
                have n2_ : Aside0 (Kd.R k31 31 w27 w.heap.size (fun k_ => some k_ ≠ (.slice Ao14 t149.length co14 : Value).ownBlock ∧ some k_ ≠ (v165 : Value).ownBlock ∧ some k_ ≠ (v171 : Value).ownBlock) v162 y161) := ⟨h2_⟩
                have n3_ : Aside0 (Kd.R k31 31 w27 w.heap.size (fun k_ => some k_ ≠ (.slice Ao14 t149.length co14 : Value).ownBlock ∧ some k_ ≠ (v162 : Value).ownBlock ∧ some k_ ≠ (v171 : Value).ownBlock) v165 y164) := ⟨h3_⟩
                have n4_ : Aside0 (Kd.R k31 31 w27 w.heap.size (fun k_ => some k_ ≠ (.slice Ao14 t149.length co14 : Value).ownBlock ∧ some k_ ≠ (v162 : Value).ownBlock ∧ some k_ ≠ (v165 : Value).ownBlock) v171 y170) := ⟨h4_⟩
                have n5_ : Aside0 (w27.heap[gb157]? = some (.cells #[.int .i64 t155, .int .i64 t156] 29 (0, 0))) := ⟨h5_⟩
                have n6_ : Aside0 (Below w.heap.size w w27) := ⟨h6_⟩
                clear HO152
                clear HO154
                clear BK157
                clear HB
                clear h0_ h1_ h2_ h3_ h4_ h5_ h6_
                have HO152 := n0_
                have HO154 := n1_
                have HO163 := n2_
                have HO166 := n3_
                have HO172 := n4_
                have BK157 := n5_
                have HB := n6_
                clear n0_ n1_ n2_ n3_ n4_ n5_ n6_
                have hHeld : w27.cell? ⟨gb157, 0, none⟩ = some (.int .i64 t155) ∧ w27.cell? ⟨gb157, 1, none⟩ = some (.int .i64 t156) := hS_
                refine norm_ (a' := ?_) ?_ ?_
                rotate_left
                · simp only [putAll, Act.put, List.setIfInBounds_toArray, List.set_cons_zero, List.set_cons_succ]
                  rfl
                refine one_ (i := 9) (N := some 27) #[true, true, true, true, true, true, true, true, true, true, true, true, false, false, false] rfl rfl (one_of HT_.out (by kernel_rfl)) (by decide) (fun K hK => ?_)
                refine Kd.R_append_rows_step k31 (w0 := w) w.heap.size (by rfl) (.tmp 25) (.tmp 26) 24 31 (.agg #[(.bool false), (.int .i64 0), (.int .i64 0)]) 24 rfl Try.underlying24 info31 rfl (by decide) (by omega) (.slice none 0 0) ([] : List (S31)) t149 _ _ _ (fun k_ => some k_ ≠ (.slice Ao14 t149.length co14 : Value).ownBlock ∧ some k_ ≠ (v162 : Value).ownBlock ∧ some k_ ≠ (v165 : Value).ownBlock ∧ some k_ ≠ (v171 : Value).ownBlock) (fun _ => False) rfl rfl ?aO ?aR (fun _ _ h => h) (fun _ h => h.elim) ?aF ?aB ?aS ?aL ?_
                (case aR => repeat (first | exact (Kd.R_reads' HO152.out).2.2 | (with_reducible refine Kd.C_alloc ?_ _) | (with_reducible refine Kd.C_drewN ?_ _) | (with_reducible refine Kd.C_drew ?_)))
                (case aB => exact (by repeat (first | (with_reducible first | exact HB.out | apply below_alloc | apply pw_below_drewN | apply below_drew1 | refine below_set ?_ GE157.out) | exact HB.out)))
                (case aF => exact (fun k_ hk => ⟨Kd.fresh' (Kd.R_lt (by (with_reducible repeat (first | apply Kd.R_alloc | apply Kd.R_drewN | apply Kd.R_drew)); exact HO152.out)) k_ hk, Kd.fresh' (Kd.R_lt (by (with_reducible repeat (first | apply Kd.R_alloc | apply Kd.R_drewN | apply Kd.R_drew)); exact HO163.out)) k_ hk, Kd.fresh' (Kd.R_lt (by (with_reducible repeat (first | apply Kd.R_alloc | apply Kd.R_drewN | apply Kd.R_drew)); exact HO166.out)) k_ hk, Kd.fresh' (Kd.R_lt (by (with_reducible repeat (first | apply Kd.R_alloc | apply Kd.R_drewN | apply Kd.R_drew)); exact HO172.out)) k_ hk⟩))
                (case aO => exact ((Kd.R_nil _ _ _ _ (fun k_ => some k_ ≠ (.slice Ao14 t149.length co14 : Value).ownBlock ∧ some k_ ≠ (v162 : Value).ownBlock ∧ some k_ ≠ (v165 : Value).ownBlock ∧ some k_ ≠ (v171 : Value).ownBlock))))
                (case aS => exact (below_size (by repeat (first | (with_reducible first | exact HB.out | apply below_alloc | apply pw_below_drewN | apply below_drew1 | refine below_set ?_ GE157.out) | exact HB.out))))
                (case aL => have := LMc6.out; omega)
                intro v168 w28 ho hb hg hat
                rw [← Ny167.out] at ho
                have n0_ := Aside0.mk (Kd.R_after (Kd.R_apart_nil (by (with_reducible repeat (first | apply Kd.R_alloc | apply Kd.R_drewN | apply Kd.R_drew)); exact HO152.out)) hg hat)
                have n1_ := Aside0.mk (Kd.R_grown (by (with_reducible repeat (first | apply Kd.R_alloc | apply Kd.R_drewN | apply Kd.R_drew)); exact HO154.out) hg (fun _ _ => by simp [Value.ownBlock]))
                have n2_ := Aside0.mk (blk_grown (g := gb157) (o := .cells #[.int .i64 t155, .int .i64 t156] 29 (0, 0)) (by (with_reducible repeat (first | refine blk_drewN ?_ _ | refine blk_drew ?_ | refine blk_alloc ?_ _)); exact BK157.out) hg (by simp [Value.ownBlock]))
                have n3_ := Aside0.mk (Kd.R_after (Kd.R_apart_nil (by (with_reducible repeat (first | apply Kd.R_alloc | apply Kd.R_drewN | apply Kd.R_drew)); exact HO163.out)) hg hat)
                have n4_ := Aside0.mk (Kd.R_after (Kd.R_apart_nil (by (with_reducible repeat (first | apply Kd.R_alloc | apply Kd.R_drewN | apply Kd.R_drew)); exact HO166.out)) hg hat)
                have n5_ := Aside0.mk (Kd.R_after (Kd.R_apart_nil (by (with_reducible repeat (first | apply Kd.R_alloc | apply Kd.R_drewN | apply Kd.R_drew)); exact HO172.out)) hg hat)
                have n6_ := Aside0.mk (hb)
                have n7_ := Aside0.mk (ho)
                clear HO152
                clear HO154
                clear BK157
                clear HO163
                clear HO166
                clear HO172
                clear HB
                have HO152 := n0_
                have HO154 := n1_
                have BK157 := n2_
                have HO163 := n3_
                have HO166 := n4_
                have HO172 := n5_
                have HB := n6_
                have HO169 := n7_
                clear n0_ n1_ n2_ n3_ n4_ n5_ n6_ n7_
                clear ho hb hg hat
                refine hK.out _ _ ⟨(blk_cell BK157.out 0).trans rfl, (blk_cell BK157.out 1).trans rfl⟩ (fun hHeld => ?_)
                clear hK K
                refine norm_ (a' := ?_) ?_ ?_
                rotate_left
                · show Act.put _ (some 27) _ = _
                  simp only [Act.put, List.setIfInBounds_toArray, List.set_cons_zero, List.set_cons_succ, i64_w, i32_w]
                  rfl
                exact norm_ (by first | (simp only [putAll, Act.put, List.setIfInBounds_toArray, List.set_cons_zero, List.set_cons_succ]; done) | (simp only [putAll, Act.put, List.setIfInBounds_toArray, List.set_cons_zero, List.set_cons_succ]; rfl)) (hJ2_5_6_9_11 (v159, v162, v165, v168, v171) _ ⟨hHeld, (by (with_reducible repeat (first | apply Kd.R_alloc | apply Kd.R_drewN | apply Kd.R_drew)); exact Kd.R_mono HO152.out (fun _ hk => ⟨hk.1.1, ⟨hk.1.2.1, ⟨hk.2, hk.1.2.2⟩⟩⟩)), (by (with_reducible repeat (first | apply Kd.R_alloc | apply Kd.R_drewN | apply Kd.R_drew)); exact HO154.out), (by (with_reducible repeat (first | apply Kd.R_alloc | apply Kd.R_drewN | apply Kd.R_drew)); exact Kd.R_mono HO163.out (fun _ hk => ⟨hk.1.1, ⟨hk.1.2.1, ⟨hk.2, hk.1.2.2⟩⟩⟩)), (by (with_reducible repeat (first | apply Kd.R_alloc | apply Kd.R_drewN | apply Kd.R_drew)); exact Kd.R_mono HO166.out (fun _ hk => ⟨hk.1.1, ⟨hk.1.2.1, ⟨hk.2, hk.1.2.2⟩⟩⟩)), (by (with_reducible repeat (first | apply Kd.R_alloc | apply Kd.R_drewN | apply Kd.R_drew)); exact HO169.out), (by (with_reducible repeat (first | apply Kd.R_alloc | apply Kd.R_drewN | apply Kd.R_drew)); exact Kd.R_mono HO172.out (fun _ hk => ⟨hk.1.1, ⟨hk.1.2.1, ⟨hk.1.2.2, hk.2⟩⟩⟩)), (by (with_reducible repeat (first | refine blk_drewN ?_ _ | refine blk_drew ?_ | refine blk_alloc ?_ _)); exact BK157.out), (by repeat (first | (with_reducible first | exact HB.out | apply below_alloc | apply pw_below_drewN | apply below_drew1 | refine below_set ?_ GE157.out) | exact HB.out))⟩)
            · skip
              rintro ⟨v159, v162, v165, v168⟩ w26 ⟨hS_, h0_, h1_, h2_, h3_, h4_, h5_, h6_⟩
              have n0_ : Aside0 (Kd.R k31 31 w26 w.heap.size (fun k_ => some k_ ≠ (v162 : Value).ownBlock ∧ some k_ ≠ (v165 : Value).ownBlock ∧ some k_ ≠ (v168 : Value).ownBlock) (.slice Ao14 t149.length co14) t149) := ⟨h0_⟩
              have n1_ : Aside0 (Kd.R k44 44 w26 w.heap.size (fun _ => True) v153 t150) := ⟨h1_⟩
              have n2_ : Aside0 (Kd.R k31 31 w26 w.heap.size (fun k_ => some k_ ≠ (.slice Ao14 t149.length co14 : Value).ownBlock ∧ some k_ ≠ (v165 : Value).ownBlock ∧ some k_ ≠ (v168 : Value).ownBlock) v162 y161) := ⟨h2_⟩
              have n3_ : Aside0 (Kd.R k31 31 w26 w.heap.size (fun k_ => some k_ ≠ (.slice Ao14 t149.length co14 : Value).ownBlock ∧ some k_ ≠ (v162 : Value).ownBlock ∧ some k_ ≠ (v168 : Value).ownBlock) v165 y164) := ⟨h3_⟩
              have n4_ : Aside0 (Kd.R k31 31 w26 w.heap.size (fun k_ => some k_ ≠ (.slice Ao14 t149.length co14 : Value).ownBlock ∧ some k_ ≠ (v162 : Value).ownBlock ∧ some k_ ≠ (v165 : Value).ownBlock) v168 y167) := ⟨h4_⟩
              have n5_ : Aside0 (w26.heap[gb157]? = some (.cells #[.int .i64 t155, .int .i64 t156] 29 (0, 0))) := ⟨h5_⟩
              have n6_ : Aside0 (Below w.heap.size w w26) := ⟨h6_⟩
              clear HO152
              clear HO154
              clear BK157
              clear HB
              clear h0_ h1_ h2_ h3_ h4_ h5_ h6_
              have HO152 := n0_
              have HO154 := n1_
              have HO163 := n2_
              have HO166 := n3_
              have HO169 := n4_
              have BK157 := n5_
              have HB := n6_
              clear n0_ n1_ n2_ n3_ n4_ n5_ n6_
              have hHeld : w26.cell? ⟨gb157, 0, none⟩ = some (.int .i64 t155) ∧ w26.cell? ⟨gb157, 1, none⟩ = some (.int .i64 t156) := hS_
              refine norm_ (a' := ?_) ?_ ?_
              rotate_left
              · simp only [putAll, Act.put, List.setIfInBounds_toArray, List.set_cons_zero, List.set_cons_succ]
                rfl
              refine one_ (i := 11) (N := some 29) #[true, true, true, true, true, true, true, true, true, true, true, true, false, false, false] rfl rfl (one_of HT_.out (by kernel_rfl)) (by decide) (fun K hK => ?_)
              refine Kd.R_lit_step k31 _ 31 ?hg (N := 29) ?hd (xs := ([(⟨false, (⟨0, 0⟩ : S29)⟩ : S31)] : List (S31))) (inner := [.bool false, .int .i64 0, .int .i64 0]) (ok := fun _ => True) (okp := fun _ => True) ?hr ?hp (fun _ hk => hk) trivial (Below.refl _ _) (Nat.le_refl _) (by simp) ?_; (case hd => rfl); (case hg => rfl); (case hr => first | (go_simp; done) | (go_simp; rfl)); (case hp => exact (Reps.c3 (show Kd.M k31 _ _ _ (⟨false, (⟨0, 0⟩ : S29)⟩ : S31) [.bool false, .int .i64 0, .int .i64 0] from (k31_mkM _ _ _ (⟨false, (⟨0, 0⟩ : S29)⟩ : S31) )) (Reps.none _ _)))
              intro v171 w27 ho28 hb hg_ hnew_
              clear hg_ hnew_
              (first | rw [← Ny170.out] at ho28 | (simp only [Int.reduceToNat] at ho28; rw [← Ny170.out] at ho28))
              have n0_ := Aside0.mk (Kd.R_elder' (by (with_reducible repeat (first | apply Kd.R_alloc | apply Kd.R_drewN | apply Kd.R_drew)); exact HO152.out) (Kd.R_base ho28) hb)
              have n1_ := Aside0.mk (Kd.R_below (by (with_reducible repeat (first | apply Kd.R_alloc | apply Kd.R_drewN | apply Kd.R_drew)); exact HO154.out) hb)
              have n2_ := Aside0.mk (Kd.R_elder' (by (with_reducible repeat (first | apply Kd.R_alloc | apply Kd.R_drewN | apply Kd.R_drew)); exact HO163.out) (Kd.R_base ho28) hb)
              have n3_ := Aside0.mk (Kd.R_elder' (by (with_reducible repeat (first | apply Kd.R_alloc | apply Kd.R_drewN | apply Kd.R_drew)); exact HO166.out) (Kd.R_base ho28) hb)
              have n4_ := Aside0.mk (Kd.R_elder' (by (with_reducible repeat (first | apply Kd.R_alloc | apply Kd.R_drewN | apply Kd.R_drew)); exact HO169.out) (Kd.R_base ho28) hb)
              have n5_ := Aside0.mk (Kd.R_lower (Kd.R_new' (Kd.R_new' (Kd.R_new' (Kd.R_new' ho28 (Kd.R_lt (by (with_reducible repeat (first | apply Kd.R_alloc | apply Kd.R_drewN | apply Kd.R_drew)); exact HO152.out))) (Kd.R_lt (by (with_reducible repeat (first | apply Kd.R_alloc | apply Kd.R_drewN | apply Kd.R_drew)); exact HO163.out))) (Kd.R_lt (by (with_reducible repeat (first | apply Kd.R_alloc | apply Kd.R_drewN | apply Kd.R_drew)); exact HO166.out))) (Kd.R_lt (by (with_reducible repeat (first | apply Kd.R_alloc | apply Kd.R_drewN | apply Kd.R_drew)); exact HO169.out))) (below_size (by repeat (first | (with_reducible first | exact HB.out | apply below_alloc | apply pw_below_drewN | apply below_drew1 | refine below_set ?_ GE157.out) | exact HB.out))))
              have n6_ := Aside0.mk (blk_below (g := gb157) (o := .cells #[.int .i64 t155, .int .i64 t156] 29 (0, 0)) (by (with_reducible repeat (first | refine blk_drewN ?_ _ | refine blk_drew ?_ | refine blk_alloc ?_ _)); exact BK157.out) hb)
              have n7_ := Aside0.mk (below_step (by repeat (first | (with_reducible first | exact HB.out | apply below_alloc | apply pw_below_drewN | apply below_drew1 | refine below_set ?_ GE157.out) | exact HB.out)) hb)
              clear HO152
              clear HO154
              clear HO163
              clear HO166
              clear HO169
              clear BK157
              clear HB
              have HO152 := n0_
              have HO154 := n1_
              have HO163 := n2_
              have HO166 := n3_
              have HO169 := n4_
              have HO172 := n5_
              have BK157 := n6_
              have HB := n7_
              clear n0_ n1_ n2_ n3_ n4_ n5_ n6_ n7_
              clear hb ho28
              refine hK.out _ _ ⟨(blk_cell BK157.out 0).trans rfl, (blk_cell BK157.out 1).trans rfl⟩ (fun hHeld => ?_)
              clear hK K
              refine norm_ (a' := ?_) ?_ ?_
              rotate_left
              · show Act.put _ (some 29) _ = _
                simp only [Act.put, List.setIfInBounds_toArray, List.set_cons_zero, List.set_cons_succ, i64_w, i32_w]
                rfl
              exact norm_ (by first | (simp only [putAll, Act.put, List.setIfInBounds_toArray, List.set_cons_zero, List.set_cons_succ]; done) | (simp only [putAll, Act.put, List.setIfInBounds_toArray, List.set_cons_zero, List.set_cons_succ]; rfl)) (hJ2_5_6_9_11 (v159, v162, v165, v168, v171) _ ⟨hHeld, (by (with_reducible repeat (first | apply Kd.R_alloc | apply Kd.R_drewN | apply Kd.R_drew)); exact Kd.R_mono HO152.out (fun _ hk => ⟨hk.1.1, ⟨hk.1.2.1, ⟨hk.1.2.2, hk.2⟩⟩⟩)), (by (with_reducible repeat (first | apply Kd.R_alloc | apply Kd.R_drewN | apply Kd.R_drew)); exact HO154.out), (by (with_reducible repeat (first | apply Kd.R_alloc | apply Kd.R_drewN | apply Kd.R_drew)); exact Kd.R_mono HO163.out (fun _ hk => ⟨hk.1.1, ⟨hk.1.2.1, ⟨hk.1.2.2, hk.2⟩⟩⟩)), (by (with_reducible repeat (first | apply Kd.R_alloc | apply Kd.R_drewN | apply Kd.R_drew)); exact Kd.R_mono HO166.out (fun _ hk => ⟨hk.1.1, ⟨hk.1.2.1, ⟨hk.1.2.2, hk.2⟩⟩⟩)), (by (with_reducible repeat (first | apply Kd.R_alloc | apply Kd.R_drewN | apply Kd.R_drew)); exact Kd.R_mono HO169.out (fun _ hk => ⟨hk.1.1, ⟨hk.1.2.1, ⟨hk.1.2.2, hk.2⟩⟩⟩)), (by (with_reducible repeat (first | apply Kd.R_alloc | apply Kd.R_drewN | apply Kd.R_drew)); exact Kd.R_mono HO172.out (fun _ hk => ⟨hk.1.1.1.2, ⟨hk.1.1.2, ⟨hk.1.2, hk.2⟩⟩⟩)), (by (with_reducible repeat (first | refine blk_drewN ?_ _ | refine blk_drew ?_ | refine blk_alloc ?_ _)); exact BK157.out), (by repeat (first | (with_reducible first | exact HB.out | apply below_alloc | apply pw_below_drewN | apply below_drew1 | refine below_set ?_ GE157.out) | exact HB.out))⟩)
          rintro ⟨v159, v162, v165, v168, v171⟩ w28 ⟨hS_, h0_, h1_, h2_, h3_, h4_, h5_, h6_, h7_⟩
          have n0_ : Aside0 (Kd.R k31 31 w28 w.heap.size (fun k_ => some k_ ≠ (v162 : Value).ownBlock ∧ some k_ ≠ (v165 : Value).ownBlock ∧ some k_ ≠ (v168 : Value).ownBlock ∧ some k_ ≠ (v171 : Value).ownBlock) (.slice Ao14 t149.length co14) t149) := ⟨h0_⟩
          have n1_ : Aside0 (Kd.R k44 44 w28 w.heap.size (fun _ => True) v153 t150) := ⟨h1_⟩
          have n2_ : Aside0 (Kd.R k31 31 w28 w.heap.size (fun k_ => some k_ ≠ (.slice Ao14 t149.length co14 : Value).ownBlock ∧ some k_ ≠ (v165 : Value).ownBlock ∧ some k_ ≠ (v168 : Value).ownBlock ∧ some k_ ≠ (v171 : Value).ownBlock) v162 y161) := ⟨h2_⟩
          have n3_ : Aside0 (Kd.R k31 31 w28 w.heap.size (fun k_ => some k_ ≠ (.slice Ao14 t149.length co14 : Value).ownBlock ∧ some k_ ≠ (v162 : Value).ownBlock ∧ some k_ ≠ (v168 : Value).ownBlock ∧ some k_ ≠ (v171 : Value).ownBlock) v165 y164) := ⟨h3_⟩
          have n4_ : Aside0 (Kd.R k31 31 w28 w.heap.size (fun k_ => some k_ ≠ (.slice Ao14 t149.length co14 : Value).ownBlock ∧ some k_ ≠ (v162 : Value).ownBlock ∧ some k_ ≠ (v165 : Value).ownBlock ∧ some k_ ≠ (v171 : Value).ownBlock) v168 y167) := ⟨h4_⟩
          have n5_ : Aside0 (Kd.R k31 31 w28 w.heap.size (fun k_ => some k_ ≠ (.slice Ao14 t149.length co14 : Value).ownBlock ∧ some k_ ≠ (v162 : Value).ownBlock ∧ some k_ ≠ (v165 : Value).ownBlock ∧ some k_ ≠ (v168 : Value).ownBlock) v171 y170) := ⟨h5_⟩
          have n6_ : Aside0 (w28.heap[gb157]? = some (.cells #[.int .i64 t155, .int .i64 t156] 29 (0, 0))) := ⟨h6_⟩
          have n7_ : Aside0 (Below w.heap.size w w28) := ⟨h7_⟩
          clear HO152
          clear HO154
          clear BK157
          clear HB
          clear h0_ h1_ h2_ h3_ h4_ h5_ h6_ h7_
          have HO152 := n0_
          have HO154 := n1_
          have HO163 := n2_
          have HO166 := n3_
          have HO169 := n4_
          have HO172 := n5_
          have BK157 := n6_
          have HB := n7_
          clear n0_ n1_ n2_ n3_ n4_ n5_ n6_ n7_
          have hHeld : w28.cell? ⟨gb157, 0, none⟩ = some (.int .i64 t155) ∧ w28.cell? ⟨gb157, 1, none⟩ = some (.int .i64 t156) := hS_
          obtain ⟨Ao30, co30, eo30⟩ := Kd.R_slice HO172.out
          (first | subst eo30 | (injection eo30 with f1_ f2_ f3_; have f4_ := f1_.symm; have f5_ := f3_.symm; clear f1_ f2_ f3_; subst f4_; subst f5_))
          refine norm_ (a' := ?_) ?_ ?_
          rotate_left
          · simp only [putAll, Act.put, List.setIfInBounds_toArray, List.set_cons_zero, List.set_cons_succ]
            rfl
          refine one_ (i := 12) (N := some 30) #[true, true, true, true, true, true, true, true, true, true, true, true, true, false, false] rfl rfl (one_of HT_.out (by kernel_rfl)) (by decide) (fun K hK => ?_)
          refine Kd.R_append_rows_step k31 (w0 := w) w.heap.size (by rfl) (.tmp 27) (.tmp 29) 24 31 (.agg #[(.bool false), (.int .i64 0), (.int .i64 0)]) 24 rfl Try.underlying24 info31 rfl (by decide) (by omega) v168 y167 y170 _ _ _ (fun k_ => some k_ ≠ (.slice Ao14 t149.length co14 : Value).ownBlock ∧ some k_ ≠ (v162 : Value).ownBlock ∧ some k_ ≠ (v165 : Value).ownBlock ∧ some k_ ≠ (.slice Ao30 y170.length co30 : Value).ownBlock) (fun _ => False) rfl rfl ?aO ?aR (fun _ _ h => h) (fun _ h => h.elim) ?aF ?aB ?aS ?aL ?_
          (case aR => repeat (first | exact (Kd.R_reads' HO172.out).2.2 | (with_reducible refine Kd.C_alloc ?_ _) | (with_reducible refine Kd.C_drewN ?_ _) | (with_reducible refine Kd.C_drew ?_)))
          (case aB => exact (by repeat (first | (with_reducible first | exact HB.out | apply below_alloc | apply pw_below_drewN | apply below_drew1 | refine below_set ?_ GE157.out) | exact HB.out)))
          (case aF => exact (fun k_ hk => ⟨Kd.fresh' (Kd.R_lt (by (with_reducible repeat (first | apply Kd.R_alloc | apply Kd.R_drewN | apply Kd.R_drew)); exact HO152.out)) k_ hk, Kd.fresh' (Kd.R_lt (by (with_reducible repeat (first | apply Kd.R_alloc | apply Kd.R_drewN | apply Kd.R_drew)); exact HO163.out)) k_ hk, Kd.fresh' (Kd.R_lt (by (with_reducible repeat (first | apply Kd.R_alloc | apply Kd.R_drewN | apply Kd.R_drew)); exact HO166.out)) k_ hk, Kd.fresh' (Kd.R_lt (by (with_reducible repeat (first | apply Kd.R_alloc | apply Kd.R_drewN | apply Kd.R_drew)); exact HO172.out)) k_ hk⟩))
          (case aO => exact (by (with_reducible repeat (first | apply Kd.R_alloc | apply Kd.R_drewN | apply Kd.R_drew)); exact HO169.out))
          (case aS => exact (below_size (by repeat (first | (with_reducible first | exact HB.out | apply below_alloc | apply pw_below_drewN | apply below_drew1 | refine below_set ?_ GE157.out) | exact HB.out))))
          (case aL => have := LMc8.out; omega)
          intro v174 w29 ho hb hg hat
          rw [← Ny173.out] at ho
          have n0_ := Aside0.mk (Kd.R_after (ok := (fun k_ => some k_ ≠ (v162 : Value).ownBlock ∧ some k_ ≠ (v165 : Value).ownBlock ∧ some k_ ≠ (.slice Ao30 y170.length co30 : Value).ownBlock)) (by (with_reducible repeat (first | apply Kd.R_alloc | apply Kd.R_drewN | apply Kd.R_drew)); exact Kd.R_mono HO152.out (fun _ hk => ⟨⟨hk.1, ⟨hk.2.1, hk.2.2.2⟩⟩, hk.2.2.1⟩)) hg hat)
          have n1_ := Aside0.mk (Kd.R_over' (by (with_reducible repeat (first | apply Kd.R_alloc | apply Kd.R_drewN | apply Kd.R_drew)); exact HO154.out) (Kd.R_typed (by (with_reducible repeat (first | apply Kd.R_alloc | apply Kd.R_drewN | apply Kd.R_drew)); exact HO169.out)) (by decide) hg)
          have n2_ := Aside0.mk (blk_grown (g := gb157) (o := .cells #[.int .i64 t155, .int .i64 t156] 29 (0, 0)) (by (with_reducible repeat (first | refine blk_drewN ?_ _ | refine blk_drew ?_ | refine blk_alloc ?_ _)); exact BK157.out) hg (Kd.R_ne HO169.out BK157.out (by decide)))
          have n3_ := Aside0.mk (Kd.R_after (ok := (fun k_ => some k_ ≠ (.slice Ao14 t149.length co14 : Value).ownBlock ∧ some k_ ≠ (v165 : Value).ownBlock ∧ some k_ ≠ (.slice Ao30 y170.length co30 : Value).ownBlock)) (by (with_reducible repeat (first | apply Kd.R_alloc | apply Kd.R_drewN | apply Kd.R_drew)); exact Kd.R_mono HO163.out (fun _ hk => ⟨⟨hk.1, ⟨hk.2.1, hk.2.2.2⟩⟩, hk.2.2.1⟩)) hg hat)
          have n4_ := Aside0.mk (Kd.R_after (ok := (fun k_ => some k_ ≠ (.slice Ao14 t149.length co14 : Value).ownBlock ∧ some k_ ≠ (v162 : Value).ownBlock ∧ some k_ ≠ (.slice Ao30 y170.length co30 : Value).ownBlock)) (by (with_reducible repeat (first | apply Kd.R_alloc | apply Kd.R_drewN | apply Kd.R_drew)); exact Kd.R_mono HO166.out (fun _ hk => ⟨⟨hk.1, ⟨hk.2.1, hk.2.2.2⟩⟩, hk.2.2.1⟩)) hg hat)
          have n5_ := Aside0.mk (Kd.R_after (ok := (fun k_ => some k_ ≠ (.slice Ao14 t149.length co14 : Value).ownBlock ∧ some k_ ≠ (v162 : Value).ownBlock ∧ some k_ ≠ (v165 : Value).ownBlock)) (by (with_reducible repeat (first | apply Kd.R_alloc | apply Kd.R_drewN | apply Kd.R_drew)); exact Kd.R_mono HO172.out (fun _ hk => ⟨⟨hk.1, ⟨hk.2.1, hk.2.2.1⟩⟩, hk.2.2.2⟩)) hg hat)
          have n6_ := Aside0.mk (hb)
          have n7_ := Aside0.mk (ho)
          clear HO152
          clear HO154
          clear BK157
          clear HO163
          clear HO166
          clear HO172
          clear HB
          clear HO169
          have HO152 := n0_
          have HO154 := n1_
          have BK157 := n2_
          have HO163 := n3_
          have HO166 := n4_
          have HO172 := n5_
          have HB := n6_
          have HO175 := n7_
          clear n0_ n1_ n2_ n3_ n4_ n5_ n6_ n7_
          clear ho hb hg hat
          refine hK.out _ _ ⟨(blk_cell BK157.out 0).trans rfl, (blk_cell BK157.out 1).trans rfl⟩ (fun hHeld => ?_)
          clear hK K
          refine norm_ (a' := ?_) ?_ ?_
          rotate_left
          · show Act.put _ (some 30) _ = _
            simp only [Act.put, List.setIfInBounds_toArray, List.set_cons_zero, List.set_cons_succ, i64_w, i32_w]
            rfl
          refine pure_ (i := 13) (N := some 6) (v := ?_) (a' := ?_) #[true, true, true, true, true, true, true, true, true, true, true, true, true, true, false] rfl rfl (any_of HT_.out (by kernel_rfl)) (fun _ _ _ h => h) (Or.inl ⟨by rfl, ?_⟩) ?_ ?_
          rotate_left
          · intro w'
            go_simp
            with_reducible rfl
          rotate_left
          · simp only [Act.put, List.setIfInBounds_toArray, List.set_cons_zero, List.set_cons_succ, i64_w, i32_w]
            rfl
          refine pure_ (i := 14) (N := some 7) (v := ?_) (a' := ?_) #[true, true, true, true, true, true, true, true, true, true, true, true, true, true, true] rfl rfl (any_of HT_.out (by kernel_rfl)) (fun _ _ _ h => h) (Or.inl ⟨by rfl, ?_⟩) ?_ ?_
          rotate_left
          · intro w'
            go_simp
            with_reducible rfl
          rotate_left
          · simp only [Act.put, List.setIfInBounds_toArray, List.set_cons_zero, List.set_cons_succ, i64_w, i32_w]
            rfl
          refine done_ (done_of HT_.out (by kernel_rfl)) ?_
          by_cases c10 : (t155 == 0 && (t156 == 0)) = true
          · rw [if_pos c10] at H
            have c10b0 : (t155 == 0 && (t156 == 0)) = true := c10
            (try (have c10b1 : decide (t155 = 0 && (t156 == 0)) = true := by simpa using c10))
            (try (have c10b2 : (t155 == 0 && (t156 == 0)) = true := by simpa using c10))
            clear c10
            by_cases c11 : (t176 == t155 && (t177 == t156)) = true
            · rw [if_pos c11] at H
              have c11b0 : (t176 == t155 && (t177 == t156)) = true := c11
              (try (have c11b1 : decide (t176 = t155 && (t177 == t156)) = true := by simpa using c11))
              (try (have c11b2 : (t176 == t155 && (t177 == t156)) = true := by simpa using c11))
              clear c11
              obtain rfl := Option.some.inj H
              obtain ⟨Ao31, co31, eo31⟩ := Kd.R_slice HO175.out
              subst eo31
              try go_wp2_with (first | ((with_reducible refine gate_callee (f := 12) rfl ?_); refine goesL_ (some 32) rfl rfl Try.func12 (by kernel_rfl) rfl #[.slice Ao31 y173.length co31] rfl (by (try simp only [List.map_toArray, List.map_cons, List.map_nil]); first | done | rfl | (simp only [List.length_drop, List.length_take]; rfl)) ?_; (with_reducible refine (vote_Most.calls k _ _ y173 t176 t177 _ ?side1 ?side2 A9.out).mono ?_); (case side1 => repeat (first | exact (Kd.R_reads' HO175.out).2.2 | (with_reducible refine Kd.C_alloc ?_ _) | (with_reducible refine Kd.C_drewN ?_ _) | (with_reducible refine Kd.C_drew ?_))); (case side2 => exact (Kd.R_reads' HO175.out).2.1); rintro e w32 ⟨rfl, hb⟩; refine ⟨_, rfl, ?_⟩; have n0_ := Aside0.mk (Kd.R_below (by (with_reducible repeat (first | apply Kd.R_alloc | apply Kd.R_drewN | apply Kd.R_drew)); exact HO152.out) hb); have n1_ := Aside0.mk (Kd.R_below (by (with_reducible repeat (first | apply Kd.R_alloc | apply Kd.R_drewN | apply Kd.R_drew)); exact HO154.out) hb); have n2_ := Aside0.mk (Kd.R_below (by (with_reducible repeat (first | apply Kd.R_alloc | apply Kd.R_drewN | apply Kd.R_drew)); exact HO163.out) hb); have n3_ := Aside0.mk (Kd.R_below (by (with_reducible repeat (first | apply Kd.R_alloc | apply Kd.R_drewN | apply Kd.R_drew)); exact HO166.out) hb); have n4_ := Aside0.mk (Kd.R_below (by (with_reducible repeat (first | apply Kd.R_alloc | apply Kd.R_drewN | apply Kd.R_drew)); exact HO172.out) hb); have n5_ := Aside0.mk (Kd.R_below (by (with_reducible repeat (first | apply Kd.R_alloc | apply Kd.R_drewN | apply Kd.R_drew)); exact HO175.out) hb); have n6_ := Aside0.mk (blk_below (g := gb157) (o := .cells #[.int .i64 t155, .int .i64 t156] 29 (0, 0)) (by (with_reducible repeat (first | refine blk_drewN ?_ _ | refine blk_drew ?_ | refine blk_alloc ?_ _)); exact BK157.out) hb); have n7_ := Aside0.mk (below_step (by repeat (first | (with_reducible first | exact HB.out | apply below_alloc | apply pw_below_drewN | apply below_drew1 | refine below_set ?_ GE157.out) | exact HB.out)) hb); clear HO152; clear HO154; clear HO163; clear HO166; clear HO172; clear HO175; clear BK157; clear HB; have HO152 := n0_; have HO154 := n1_; have HO163 := n2_; have HO166 := n3_; have HO172 := n4_; have HO175 := n5_; have BK157 := n6_; have HB := n7_; clear n0_ n1_ n2_ n3_ n4_ n5_ n6_ n7_; (try clear hb); (try clear hb2); (try clear hk); (try clear hi)) | ((with_reducible refine gate_dst (N := 8) rfl ?_); refine box_event ?hg (N := 8) ?hd (cs := #[.int .i64 0, .int .i64 0]) (t := 29) ?hr ?_; (case hd => rfl); (case hg => rfl); (case hr => first | (go_simp; done) | (go_simp; rfl)); intro gb178 hg w33 hbox hb; have n0_ := Aside0.mk (Kd.R_below (by (with_reducible repeat (first | apply Kd.R_alloc | apply Kd.R_drewN | apply Kd.R_drew)); exact HO152.out) hb); have n1_ := Aside0.mk (Kd.R_below (by (with_reducible repeat (first | apply Kd.R_alloc | apply Kd.R_drewN | apply Kd.R_drew)); exact HO154.out) hb); have n2_ := Aside0.mk (Kd.R_below (by (with_reducible repeat (first | apply Kd.R_alloc | apply Kd.R_drewN | apply Kd.R_drew)); exact HO163.out) hb); have n3_ := Aside0.mk (Kd.R_below (by (with_reducible repeat (first | apply Kd.R_alloc | apply Kd.R_drewN | apply Kd.R_drew)); exact HO166.out) hb); have n4_ := Aside0.mk (Kd.R_below (by (with_reducible repeat (first | apply Kd.R_alloc | apply Kd.R_drewN | apply Kd.R_drew)); exact HO172.out) hb); have n5_ := Aside0.mk (Kd.R_below (by (with_reducible repeat (first | apply Kd.R_alloc | apply Kd.R_drewN | apply Kd.R_drew)); exact HO175.out) hb); have n6_ := Aside0.mk (blk_below (g := gb157) (o := .cells #[.int .i64 t155, .int .i64 t156] 29 (0, 0)) (by (with_reducible repeat (first | refine blk_drewN ?_ _ | refine blk_drew ?_ | refine blk_alloc ?_ _)); exact BK157.out) hb); have n7_ := Aside0.mk (below_step (by repeat (first | (with_reducible first | exact HB.out | apply below_alloc | apply pw_below_drewN | apply below_drew1 | refine below_set ?_ GE157.out) | exact HB.out)) hb); have n8_ := Aside0.mk (hbox); have n9_ := Aside0.mk ((by rw [hg]; exact (below_size (by repeat (first | (with_reducible first | exact HB.out | apply below_alloc | apply pw_below_drewN | apply below_drew1 | refine below_set ?_ GE157.out) | exact HB.out))) : w.heap.size ≤ gb178)); have n10_ := Aside0.mk ((by rw [hg]; exact (below_size (by repeat (first | (with_reducible first | exact HB.out | apply below_alloc | apply pw_below_drewN | apply below_drew1 | refine below_set ?_ GE157.out) | exact HB.out))) : w.heap.size ≤ gb178)); have n11_ := Aside0.mk ((by rw [hg]; exact Nat.ne_of_lt (blk_lt (g := gb157) (o := .cells #[.int .i64 t155, .int .i64 t156] 29 (0, 0)) (by (with_reducible repeat (first | refine blk_drewN ?_ _ | refine blk_drew ?_ | refine blk_alloc ?_ _)); exact BK157.out)) : gb157 ≠ gb178)); have n12_ := Aside0.mk ((by rw [hg]; exact Nat.ne_of_gt (blk_lt (g := gb157) (o := .cells #[.int .i64 t155, .int .i64 t156] 29 (0, 0)) (by (with_reducible repeat (first | refine blk_drewN ?_ _ | refine blk_drew ?_ | refine blk_alloc ?_ _)); exact BK157.out)) : gb178 ≠ gb157)); clear HO152; clear HO154; clear HO163; clear HO166; clear HO172; clear HO175; clear BK157; clear HB; have HO152 := n0_; have HO154 := n1_; have HO163 := n2_; have HO166 := n3_; have HO172 := n4_; have HO175 := n5_; have BK157 := n6_; have HB := n7_; have BK178 := n8_; have GW178 := n9_; have GE178 := n10_; have NB157_178 := n11_; have NB178_157 := n12_; clear n0_ n1_ n2_ n3_ n4_ n5_ n6_ n7_ n8_ n9_ n10_ n11_ n12_; clear hb hbox hg; have hnb34 := NB178_157.out; have hnc34 := NB157_178.out; have hcz35_0 : w33.cell? ⟨gb178, 0, none⟩ = some (.int .i64 0) := (blk_cell BK178.out 0).trans rfl; have hcz35_1 : w33.cell? ⟨gb178, 1, none⟩ = some (.int .i64 0) := (blk_cell BK178.out 1).trans rfl; have hfz35_0 := blk_frozen BK178.out 0; have hfz35_1 := blk_frozen BK178.out 1))
              have n0_ : Aside0 (Kd.R k31 31 ((w33.setCell ⟨gb178, 0, none⟩ (.int .i64 t176)).setCell ⟨gb178, 1, none⟩ (.int .i64 t177)) w.heap.size (fun k_ => some k_ ≠ (v162 : Value).ownBlock ∧ some k_ ≠ (v165 : Value).ownBlock ∧ some k_ ≠ (.slice Ao30 y170.length co30 : Value).ownBlock ∧ some k_ ≠ (.slice Ao31 y173.length co31 : Value).ownBlock) (.slice Ao14 t149.length co14) t149) := ⟨by (with_reducible repeat (first | apply Kd.R_alloc | apply Kd.R_drewN | apply Kd.R_drew)); exact Kd.R_mono (Kd.R_far (p := ⟨gb178, 1, none⟩) (Kd.R_far (p := ⟨gb178, 0, none⟩) (Kd.R_types HO152.out BK178.out (by decide)) (fun _ hk => hk.2) (.int .i64 t176)) (fun _ hk => hk.2) (.int .i64 t177)) (fun _ hk => ⟨hk.1.1.1, ⟨hk.1.1.2.1, ⟨hk.1.1.2.2, hk.1.2⟩⟩⟩)⟩
              have n1_ : Aside0 (Kd.R k44 44 ((w33.setCell ⟨gb178, 0, none⟩ (.int .i64 t176)).setCell ⟨gb178, 1, none⟩ (.int .i64 t177)) w.heap.size (fun _ => True) v153 t150) := ⟨by (with_reducible repeat (first | apply Kd.R_alloc | apply Kd.R_drewN | apply Kd.R_drew)); exact Kd.R_mono (Kd.R_far (p := ⟨gb178, 1, none⟩) (Kd.R_far (p := ⟨gb178, 0, none⟩) (Kd.R_types HO154.out BK178.out (by decide)) (fun _ hk => hk.2) (.int .i64 t176)) (fun _ hk => hk.2) (.int .i64 t177)) (fun _ hk => trivial)⟩
              have n2_ : Aside0 (Kd.R k31 31 ((w33.setCell ⟨gb178, 0, none⟩ (.int .i64 t176)).setCell ⟨gb178, 1, none⟩ (.int .i64 t177)) w.heap.size (fun k_ => some k_ ≠ (.slice Ao14 t149.length co14 : Value).ownBlock ∧ some k_ ≠ (v165 : Value).ownBlock ∧ some k_ ≠ (.slice Ao30 y170.length co30 : Value).ownBlock ∧ some k_ ≠ (.slice Ao31 y173.length co31 : Value).ownBlock) v162 y161) := ⟨by (with_reducible repeat (first | apply Kd.R_alloc | apply Kd.R_drewN | apply Kd.R_drew)); exact Kd.R_mono (Kd.R_far (p := ⟨gb178, 1, none⟩) (Kd.R_far (p := ⟨gb178, 0, none⟩) (Kd.R_types HO163.out BK178.out (by decide)) (fun _ hk => hk.2) (.int .i64 t176)) (fun _ hk => hk.2) (.int .i64 t177)) (fun _ hk => ⟨hk.1.1.1, ⟨hk.1.1.2.1, ⟨hk.1.1.2.2, hk.1.2⟩⟩⟩)⟩
              have n3_ : Aside0 (Kd.R k31 31 ((w33.setCell ⟨gb178, 0, none⟩ (.int .i64 t176)).setCell ⟨gb178, 1, none⟩ (.int .i64 t177)) w.heap.size (fun k_ => some k_ ≠ (.slice Ao14 t149.length co14 : Value).ownBlock ∧ some k_ ≠ (v162 : Value).ownBlock ∧ some k_ ≠ (.slice Ao30 y170.length co30 : Value).ownBlock ∧ some k_ ≠ (.slice Ao31 y173.length co31 : Value).ownBlock) v165 y164) := ⟨by (with_reducible repeat (first | apply Kd.R_alloc | apply Kd.R_drewN | apply Kd.R_drew)); exact Kd.R_mono (Kd.R_far (p := ⟨gb178, 1, none⟩) (Kd.R_far (p := ⟨gb178, 0, none⟩) (Kd.R_types HO166.out BK178.out (by decide)) (fun _ hk => hk.2) (.int .i64 t176)) (fun _ hk => hk.2) (.int .i64 t177)) (fun _ hk => ⟨hk.1.1.1, ⟨hk.1.1.2.1, ⟨hk.1.1.2.2, hk.1.2⟩⟩⟩)⟩
              have n4_ : Aside0 (Kd.R k31 31 ((w33.setCell ⟨gb178, 0, none⟩ (.int .i64 t176)).setCell ⟨gb178, 1, none⟩ (.int .i64 t177)) w.heap.size (fun k_ => some k_ ≠ (.slice Ao14 t149.length co14 : Value).ownBlock ∧ some k_ ≠ (v162 : Value).ownBlock ∧ some k_ ≠ (v165 : Value).ownBlock ∧ some k_ ≠ (.slice Ao31 y173.length co31 : Value).ownBlock) (.slice Ao30 y170.length co30) y170) := ⟨by (with_reducible repeat (first | apply Kd.R_alloc | apply Kd.R_drewN | apply Kd.R_drew)); exact Kd.R_mono (Kd.R_far (p := ⟨gb178, 1, none⟩) (Kd.R_far (p := ⟨gb178, 0, none⟩) (Kd.R_types HO172.out BK178.out (by decide)) (fun _ hk => hk.2) (.int .i64 t176)) (fun _ hk => hk.2) (.int .i64 t177)) (fun _ hk => ⟨hk.1.1.1, ⟨hk.1.1.2.1, ⟨hk.1.1.2.2, hk.1.2⟩⟩⟩)⟩
              have n5_ : Aside0 (Kd.R k31 31 ((w33.setCell ⟨gb178, 0, none⟩ (.int .i64 t176)).setCell ⟨gb178, 1, none⟩ (.int .i64 t177)) w.heap.size (fun k_ => some k_ ≠ (.slice Ao14 t149.length co14 : Value).ownBlock ∧ some k_ ≠ (v162 : Value).ownBlock ∧ some k_ ≠ (v165 : Value).ownBlock ∧ some k_ ≠ (.slice Ao30 y170.length co30 : Value).ownBlock) (.slice Ao31 y173.length co31) y173) := ⟨by (with_reducible repeat (first | apply Kd.R_alloc | apply Kd.R_drewN | apply Kd.R_drew)); exact Kd.R_mono (Kd.R_far (p := ⟨gb178, 1, none⟩) (Kd.R_far (p := ⟨gb178, 0, none⟩) (Kd.R_types HO175.out BK178.out (by decide)) (fun _ hk => hk.2) (.int .i64 t176)) (fun _ hk => hk.2) (.int .i64 t177)) (fun _ hk => ⟨hk.1.1, ⟨hk.1.2.1, ⟨hk.1.2.2.1, hk.1.2.2.2⟩⟩⟩)⟩
              have n6_ : Aside0 (((w33.setCell ⟨gb178, 0, none⟩ (.int .i64 t176)).setCell ⟨gb178, 1, none⟩ (.int .i64 t177)).heap[gb157]? = some (.cells #[.int .i64 t155, .int .i64 t156] 29 (0, 0))) := ⟨by (with_reducible repeat (first | refine blk_drewN ?_ _ | refine blk_drew ?_ | refine blk_alloc ?_ _)); refine blk_far ?_ NB157_178.out _; (with_reducible repeat (first | refine blk_drewN ?_ _ | refine blk_drew ?_ | refine blk_alloc ?_ _)); refine blk_far ?_ NB157_178.out _; (with_reducible repeat (first | refine blk_drewN ?_ _ | refine blk_drew ?_ | refine blk_alloc ?_ _)); exact BK157.out⟩
              have n7_ : Aside0 (((w33.setCell ⟨gb178, 0, none⟩ (.int .i64 t176)).setCell ⟨gb178, 1, none⟩ (.int .i64 t177)).heap[gb178]? = some (.cells #[.int .i64 t176, .int .i64 t177] 29 (0, 0))) := ⟨by (with_reducible repeat (first | refine blk_drewN ?_ _ | refine blk_drew ?_ | refine blk_alloc ?_ _)); refine blk_put (cs := #[.int .i64 t176, .int .i64 0]) ?_ 1 _ rfl; (with_reducible repeat (first | refine blk_drewN ?_ _ | refine blk_drew ?_ | refine blk_alloc ?_ _)); refine blk_put (cs := #[.int .i64 0, .int .i64 0]) ?_ 0 _ rfl; (with_reducible repeat (first | refine blk_drewN ?_ _ | refine blk_drew ?_ | refine blk_alloc ?_ _)); exact BK178.out⟩
              have n8_ : Aside0 (Below w.heap.size w ((w33.setCell ⟨gb178, 0, none⟩ (.int .i64 t176)).setCell ⟨gb178, 1, none⟩ (.int .i64 t177))) := ⟨by repeat (first | (with_reducible first | exact HB.out | apply below_alloc | apply pw_below_drewN | apply below_drew1 | refine below_set ?_ GE157.out | refine below_set ?_ GE178.out) | exact HB.out)⟩
              (try clear HO152)
              (try clear HO154)
              (try clear HO163)
              (try clear HO166)
              (try clear HO172)
              (try clear HO175)
              (try clear BK157)
              (try clear BK178)
              (try clear HB)
              generalize ((w33.setCell ⟨gb178, 0, none⟩ (.int .i64 t176)).setCell ⟨gb178, 1, none⟩ (.int .i64 t177)) = w36 at n0_ n1_ n2_ n3_ n4_ n5_ n6_ n7_ n8_ ⊢
              have HO152 := n0_
              have HO154 := n1_
              have HO163 := n2_
              have HO166 := n3_
              have HO172 := n4_
              have HO175 := n5_
              have BK157 := n6_
              have BK178 := n7_
              have HB := n8_
              clear n0_ n1_ n2_ n3_ n4_ n5_ n6_ n7_ n8_
              have n0_ := Aside0.mk (Kd.R_drew HO152.out)
              have n1_ := Aside0.mk (Kd.R_drew HO154.out)
              have n2_ := Aside0.mk (Kd.R_drew HO163.out)
              have n3_ := Aside0.mk (Kd.R_drew HO166.out)
              have n4_ := Aside0.mk (Kd.R_drew HO172.out)
              have n5_ := Aside0.mk (Kd.R_drew HO175.out)
              have n6_ := Aside0.mk (blk_drew BK157.out)
              have n7_ := Aside0.mk (blk_drew BK178.out)
              have n8_ := Aside0.mk (below_drew1 HB.out)
              clear HO152
              clear HO154
              clear HO163
              clear HO166
              clear HO172
              clear HO175
              clear BK157
              clear BK178
              clear HB
              have HO152 := n0_
              have HO154 := n1_
              have HO163 := n2_
              have HO166 := n3_
              have HO172 := n4_
              have HO175 := n5_
              have BK157 := n6_
              have BK178 := n7_
              have HB := n8_
              clear n0_ n1_ n2_ n3_ n4_ n5_ n6_ n7_ n8_
              refine start_ (n := 20) (S := fun w' => w'.cell? ⟨gb157, 0, none⟩ = some (.int .i64 t155) ∧ w'.cell? ⟨gb157, 1, none⟩ = some (.int .i64 t156) ∧ w'.cell? ⟨gb178, 0, none⟩ = some (.int .i64 t176) ∧ w'.cell? ⟨gb178, 1, none⟩ = some (.int .i64 t177)) (ds := []) #[false, false, false, false, false, false, false, false, false, false, false, false, false, false, false, false, false, false, false, false] (by kernel_rfl) rfl rfl ⟨(blk_cell BK157.out 0).trans rfl, (blk_cell BK157.out 1).trans rfl, (blk_cell BK178.out 0).trans rfl, (blk_cell BK178.out 1).trans rfl⟩ (fun hHeld => ?_); refine with_tabW plaitinglaw15_VoteGrows.tab8 plaitinglaw15_VoteGrows.bits8 (fun HT_ HW_ => ?_)
              generalize w36.drew = w37 at HO152 HO154 HO163 HO166 HO172 HO175 BK157 BK178 HB hHeld ⊢
              refine pure_ (i := 1) (N := some 34) (v := ?_) (a' := ?_) #[false, true, false, false, false, false, false, false, false, false, false, false, false, false, false, false, false, false, false, false] rfl rfl (any_of HT_.out (by kernel_rfl)) (fun _ _ _ h => h) (Or.inl ⟨by rfl, ?_⟩) ?_ ?_
              rotate_left
              · intro w'
                go_simp
                with_reducible rfl
              rotate_left
              · simp only [Act.put, List.setIfInBounds_toArray, List.set_cons_zero, List.set_cons_succ, i64_w, i32_w]
                rfl
              refine take_ (i := 0) (N := some 33) (v := ?_) (a' := ?_) #[true, true, false, false, false, false, false, false, false, false, false, false, false, false, false, false, false, false, false, false] rfl rfl (take_ofW HT_.out HW_.out (by kernel_rfl)) (fun _ _ _ h => h) (Or.inl ⟨by rfl, ?_⟩) hHeld ?_ ?_
              rotate_left
              · rintro w' ⟨s0, s1, s2, s3⟩
                go_simp
                with_reducible rfl
              rotate_left
              · simp only [Act.put, List.setIfInBounds_toArray, List.set_cons_zero, List.set_cons_succ, i64_w, i32_w]
                rfl
              refine pure_ (i := 2) (N := some 35) (v := ?_) (a' := ?_) #[true, true, true, false, false, false, false, false, false, false, false, false, false, false, false, false, false, false, false, false] rfl rfl (any_of HT_.out (by kernel_rfl)) (fun _ _ _ h => h) (Or.inl ⟨by rfl, ?_⟩) ?_ ?_
              rotate_left
              · intro w'
                go_simp
                with_reducible rfl
              rotate_left
              · simp only [Act.put, List.setIfInBounds_toArray, List.set_cons_zero, List.set_cons_succ, i64_w, i32_w]
                rfl
              refine pure_ (i := 3) (N := some 36) (v := ?_) (a' := ?_) #[true, true, true, true, false, false, false, false, false, false, false, false, false, false, false, false, false, false, false, false] rfl rfl (any_of HT_.out (by kernel_rfl)) (fun _ _ _ h => h) (Or.inl ⟨by rfl, ?_⟩) ?_ ?_
              rotate_left
              · intro w'
                go_simp
                with_reducible rfl
              rotate_left
              · simp only [Act.put, List.setIfInBounds_toArray, List.set_cons_zero, List.set_cons_succ, i64_w, i32_w]
                rfl
              refine pure_ (i := 4) (N := some 37) (v := undef) (a' := ?_) #[true, true, true, true, true, false, false, false, false, false, false, false, false, false, false, false, false, false, false, false] rfl rfl (any_of HT_.out (by kernel_rfl)) (fun _ _ _ h => h) (Or.inr ⟨by rfl, rfl⟩) ?_ ?_
              rotate_left
              · simp only [Act.put, List.setIfInBounds_toArray, List.set_cons_zero, List.set_cons_succ, i64_w, i32_w]
                rfl
              refine pure_ (i := 5) (N := some 38) (v := undef) (a' := ?_) #[true, true, true, true, true, true, false, false, false, false, false, false, false, false, false, false, false, false, false, false] rfl rfl (any_of HT_.out (by kernel_rfl)) (fun _ _ _ h => h) (Or.inr ⟨by rfl, rfl⟩) ?_ ?_
              rotate_left
              · simp only [Act.put, List.setIfInBounds_toArray, List.set_cons_zero, List.set_cons_succ, i64_w, i32_w]
                rfl
              refine pure_ (i := 6) (N := some 39) (v := undef) (a' := ?_) #[true, true, true, true, true, true, true, false, false, false, false, false, false, false, false, false, false, false, false, false] rfl rfl (any_of HT_.out (by kernel_rfl)) (fun _ _ _ h => h) (Or.inr ⟨by rfl, rfl⟩) ?_ ?_
              rotate_left
              · simp only [Act.put, List.setIfInBounds_toArray, List.set_cons_zero, List.set_cons_succ, i64_w, i32_w]
                rfl
              refine pure_ (i := 7) (N := some 40) (v := undef) (a' := ?_) #[true, true, true, true, true, true, true, true, false, false, false, false, false, false, false, false, false, false, false, false] rfl rfl (any_of HT_.out (by kernel_rfl)) (fun _ _ _ h => h) (Or.inr ⟨by rfl, rfl⟩) ?_ ?_
              rotate_left
              · simp only [Act.put, List.setIfInBounds_toArray, List.set_cons_zero, List.set_cons_succ, i64_w, i32_w]
                rfl
              refine pure_ (i := 8) (N := some 41) (v := ?_) (a' := ?_) #[true, true, true, true, true, true, true, true, true, false, false, false, false, false, false, false, false, false, false, false] rfl rfl (any_of HT_.out (by kernel_rfl)) (fun _ _ _ h => h) (Or.inl ⟨by rfl, ?_⟩) ?_ ?_
              rotate_left
              · intro w'
                go_simp
                with_reducible rfl
              rotate_left
              · simp only [Act.put, List.setIfInBounds_toArray, List.set_cons_zero, List.set_cons_succ, i64_w, i32_w]
                rfl
              refine pure_ (i := 9) (N := some 42) (v := ?_) (a' := ?_) #[true, true, true, true, true, true, true, true, true, true, false, false, false, false, false, false, false, false, false, false] rfl rfl (any_of HT_.out (by kernel_rfl)) (fun _ _ _ h => h) (Or.inl ⟨by rfl, ?_⟩) ?_ ?_
              rotate_left
              · intro w'
                go_simp
                with_reducible rfl
              rotate_left
              · simp only [Act.put, List.setIfInBounds_toArray, List.set_cons_zero, List.set_cons_succ, i64_w, i32_w]
                rfl
              refine take_ (i := 10) (N := some 43) (v := ?_) (a' := ?_) #[true, true, true, true, true, true, true, true, true, true, true, false, false, false, false, false, false, false, false, false] rfl rfl (take_ofW HT_.out HW_.out (by kernel_rfl)) (fun _ _ _ h => h) (Or.inl ⟨by rfl, ?_⟩) hHeld ?_ ?_
              rotate_left
              · rintro w' ⟨s0, s1, s2, s3⟩
                go_simp
                with_reducible rfl
              rotate_left
              · simp only [Act.put, List.setIfInBounds_toArray, List.set_cons_zero, List.set_cons_succ, i64_w, i32_w]
                rfl
              refine take_ (i := 11) (N := some 44) (v := ?_) (a' := ?_) #[true, true, true, true, true, true, true, true, true, true, true, true, false, false, false, false, false, false, false, false] rfl rfl (take_ofW HT_.out HW_.out (by kernel_rfl)) (fun _ _ _ h => h) (Or.inl ⟨by rfl, ?_⟩) hHeld ?_ ?_
              rotate_left
              · rintro w' ⟨s0, s1, s2, s3⟩
                go_simp
                with_reducible rfl
              rotate_left
              · simp only [Act.put, List.setIfInBounds_toArray, List.set_cons_zero, List.set_cons_succ, i64_w, i32_w]
                rfl
              refine pure_ (i := 12) (N := some 45) (v := ?_) (a' := ?_) #[true, true, true, true, true, true, true, true, true, true, true, true, true, false, false, false, false, false, false, false] rfl rfl (any_of HT_.out (by kernel_rfl)) (fun _ _ _ h => h) (Or.inl ⟨by rfl, ?_⟩) ?_ ?_
              rotate_left
              · intro w'
                go_simp
                with_reducible rfl
              rotate_left
              · simp only [Act.put, List.setIfInBounds_toArray, List.set_cons_zero, List.set_cons_succ, i64_w, i32_w]
                rfl
              refine pure_ (i := 13) (N := some 46) (v := ?_) (a' := ?_) #[true, true, true, true, true, true, true, true, true, true, true, true, true, true, false, false, false, false, false, false] rfl rfl (any_of HT_.out (by kernel_rfl)) (fun _ _ _ h => h) (Or.inl ⟨by rfl, ?_⟩) ?_ ?_
              rotate_left
              · intro w'
                go_simp
                with_reducible rfl
              rotate_left
              · simp only [Act.put, List.setIfInBounds_toArray, List.set_cons_zero, List.set_cons_succ, i64_w, i32_w]
                rfl
              refine pure_ (i := 14) (N := some 47) (v := undef) (a' := ?_) #[true, true, true, true, true, true, true, true, true, true, true, true, true, true, true, false, false, false, false, false] rfl rfl (any_of HT_.out (by kernel_rfl)) (fun _ _ _ h => h) (Or.inr ⟨by rfl, rfl⟩) ?_ ?_
              rotate_left
              · simp only [Act.put, List.setIfInBounds_toArray, List.set_cons_zero, List.set_cons_succ, i64_w, i32_w]
                rfl
              refine pure_ (i := 15) (N := some 48) (v := undef) (a' := ?_) #[true, true, true, true, true, true, true, true, true, true, true, true, true, true, true, true, false, false, false, false] rfl rfl (any_of HT_.out (by kernel_rfl)) (fun _ _ _ h => h) (Or.inr ⟨by rfl, rfl⟩) ?_ ?_
              rotate_left
              · simp only [Act.put, List.setIfInBounds_toArray, List.set_cons_zero, List.set_cons_succ, i64_w, i32_w]
                rfl
              refine pure_ (i := 16) (N := some 49) (v := undef) (a' := ?_) #[true, true, true, true, true, true, true, true, true, true, true, true, true, true, true, true, true, false, false, false] rfl rfl (any_of HT_.out (by kernel_rfl)) (fun _ _ _ h => h) (Or.inr ⟨by rfl, rfl⟩) ?_ ?_
              rotate_left
              · simp only [Act.put, List.setIfInBounds_toArray, List.set_cons_zero, List.set_cons_succ, i64_w, i32_w]
                rfl
              refine pure_ (i := 17) (N := some 50) (v := ?_) (a' := ?_) #[true, true, true, true, true, true, true, true, true, true, true, true, true, true, true, true, true, true, false, false] rfl rfl (any_of HT_.out (by kernel_rfl)) (fun _ _ _ h => h) (Or.inl ⟨by rfl, ?_⟩) ?_ ?_
              rotate_left
              · intro w'
                go_simp
                with_reducible rfl
              rotate_left
              · simp only [Act.put, List.setIfInBounds_toArray, List.set_cons_zero, List.set_cons_succ, i64_w, i32_w]
                rfl
              refine pure_ (i := 18) (N := some 51) (v := ?_) (a' := ?_) #[true, true, true, true, true, true, true, true, true, true, true, true, true, true, true, true, true, true, true, false] rfl rfl (any_of HT_.out (by kernel_rfl)) (fun _ _ _ h => h) (Or.inl ⟨by rfl, ?_⟩) ?_ ?_
              rotate_left
              · intro w'
                go_simp
                with_reducible rfl
              rotate_left
              · simp only [Act.put, List.setIfInBounds_toArray, List.set_cons_zero, List.set_cons_succ, i64_w, i32_w]
                rfl
              refine pure_ (i := 19) (N := some 2) (v := ?_) (a' := ?_) #[true, true, true, true, true, true, true, true, true, true, true, true, true, true, true, true, true, true, true, true] rfl rfl (any_of HT_.out (by kernel_rfl)) (fun _ _ _ h => h) (Or.inl ⟨by rfl, ?_⟩) ?_ ?_
              rotate_left
              · intro w'
                go_simp
                with_reducible rfl
              rotate_left
              · simp only [Act.put, List.setIfInBounds_toArray, List.set_cons_zero, List.set_cons_succ, i64_w, i32_w]
                rfl
              refine done_ (done_of HT_.out (by kernel_rfl)) ?_
              try go_wp2
              go_ret
              exact ⟨by first | rfl | (simp [errW_none, errW_some] <;> rfl) | (simp [*, errW_none, errW_some] <;> rfl), by repeat (first | (with_reducible first | exact HB.out | apply below_alloc | apply pw_below_drewN | apply below_drew1 | refine below_set ?_ GE157.out | refine below_set ?_ GE178.out) | exact HB.out)⟩
            · rw [if_neg c11] at H
              have c11b0 : (t176 == t155 && (t177 == t156)) = false := by simpa using c11
              (try (have c11b1 : decide (t176 = t155 && (t177 == t156)) = false := by simpa using c11))
              (try (have c11b2 : (t176 == t155 && (t177 == t156)) = false := by simpa using c11))
              (try (have c11b3 : ¬ (t176 = t155 && (t177 == t156)) := by simpa using c11))
              clear c11
              obtain rfl := Option.some.inj H
              obtain ⟨Ao57, co57, eo57⟩ := Kd.R_slice HO175.out
              subst eo57
              try go_wp2_with (first | ((with_reducible refine gate_callee (f := 12) rfl ?_); refine goesL_ (some 32) rfl rfl Try.func12 (by kernel_rfl) rfl #[.slice Ao57 y173.length co57] rfl (by (try simp only [List.map_toArray, List.map_cons, List.map_nil]); first | done | rfl | (simp only [List.length_drop, List.length_take]; rfl)) ?_; (with_reducible refine (vote_Most.calls k _ _ y173 t176 t177 _ ?side1 ?side2 A9.out).mono ?_); (case side1 => repeat (first | exact (Kd.R_reads' HO175.out).2.2 | (with_reducible refine Kd.C_alloc ?_ _) | (with_reducible refine Kd.C_drewN ?_ _) | (with_reducible refine Kd.C_drew ?_))); (case side2 => exact (Kd.R_reads' HO175.out).2.1); rintro e w58 ⟨rfl, hb⟩; refine ⟨_, rfl, ?_⟩; have n0_ := Aside0.mk (Kd.R_below (by (with_reducible repeat (first | apply Kd.R_alloc | apply Kd.R_drewN | apply Kd.R_drew)); exact HO152.out) hb); have n1_ := Aside0.mk (Kd.R_below (by (with_reducible repeat (first | apply Kd.R_alloc | apply Kd.R_drewN | apply Kd.R_drew)); exact HO154.out) hb); have n2_ := Aside0.mk (Kd.R_below (by (with_reducible repeat (first | apply Kd.R_alloc | apply Kd.R_drewN | apply Kd.R_drew)); exact HO163.out) hb); have n3_ := Aside0.mk (Kd.R_below (by (with_reducible repeat (first | apply Kd.R_alloc | apply Kd.R_drewN | apply Kd.R_drew)); exact HO166.out) hb); have n4_ := Aside0.mk (Kd.R_below (by (with_reducible repeat (first | apply Kd.R_alloc | apply Kd.R_drewN | apply Kd.R_drew)); exact HO172.out) hb); have n5_ := Aside0.mk (Kd.R_below (by (with_reducible repeat (first | apply Kd.R_alloc | apply Kd.R_drewN | apply Kd.R_drew)); exact HO175.out) hb); have n6_ := Aside0.mk (blk_below (g := gb157) (o := .cells #[.int .i64 t155, .int .i64 t156] 29 (0, 0)) (by (with_reducible repeat (first | refine blk_drewN ?_ _ | refine blk_drew ?_ | refine blk_alloc ?_ _)); exact BK157.out) hb); have n7_ := Aside0.mk (below_step (by repeat (first | (with_reducible first | exact HB.out | apply below_alloc | apply pw_below_drewN | apply below_drew1 | refine below_set ?_ GE157.out) | exact HB.out)) hb); clear HO152; clear HO154; clear HO163; clear HO166; clear HO172; clear HO175; clear BK157; clear HB; have HO152 := n0_; have HO154 := n1_; have HO163 := n2_; have HO166 := n3_; have HO172 := n4_; have HO175 := n5_; have BK157 := n6_; have HB := n7_; clear n0_ n1_ n2_ n3_ n4_ n5_ n6_ n7_; (try clear hb); (try clear hb2); (try clear hk); (try clear hi)) | ((with_reducible refine gate_dst (N := 8) rfl ?_); refine box_event ?hg (N := 8) ?hd (cs := #[.int .i64 0, .int .i64 0]) (t := 29) ?hr ?_; (case hd => rfl); (case hg => rfl); (case hr => first | (go_simp; done) | (go_simp; rfl)); intro gb178 hg w59 hbox hb; have n0_ := Aside0.mk (Kd.R_below (by (with_reducible repeat (first | apply Kd.R_alloc | apply Kd.R_drewN | apply Kd.R_drew)); exact HO152.out) hb); have n1_ := Aside0.mk (Kd.R_below (by (with_reducible repeat (first | apply Kd.R_alloc | apply Kd.R_drewN | apply Kd.R_drew)); exact HO154.out) hb); have n2_ := Aside0.mk (Kd.R_below (by (with_reducible repeat (first | apply Kd.R_alloc | apply Kd.R_drewN | apply Kd.R_drew)); exact HO163.out) hb); have n3_ := Aside0.mk (Kd.R_below (by (with_reducible repeat (first | apply Kd.R_alloc | apply Kd.R_drewN | apply Kd.R_drew)); exact HO166.out) hb); have n4_ := Aside0.mk (Kd.R_below (by (with_reducible repeat (first | apply Kd.R_alloc | apply Kd.R_drewN | apply Kd.R_drew)); exact HO172.out) hb); have n5_ := Aside0.mk (Kd.R_below (by (with_reducible repeat (first | apply Kd.R_alloc | apply Kd.R_drewN | apply Kd.R_drew)); exact HO175.out) hb); have n6_ := Aside0.mk (blk_below (g := gb157) (o := .cells #[.int .i64 t155, .int .i64 t156] 29 (0, 0)) (by (with_reducible repeat (first | refine blk_drewN ?_ _ | refine blk_drew ?_ | refine blk_alloc ?_ _)); exact BK157.out) hb); have n7_ := Aside0.mk (below_step (by repeat (first | (with_reducible first | exact HB.out | apply below_alloc | apply pw_below_drewN | apply below_drew1 | refine below_set ?_ GE157.out) | exact HB.out)) hb); have n8_ := Aside0.mk (hbox); have n9_ := Aside0.mk ((by rw [hg]; exact (below_size (by repeat (first | (with_reducible first | exact HB.out | apply below_alloc | apply pw_below_drewN | apply below_drew1 | refine below_set ?_ GE157.out) | exact HB.out))) : w.heap.size ≤ gb178)); have n10_ := Aside0.mk ((by rw [hg]; exact (below_size (by repeat (first | (with_reducible first | exact HB.out | apply below_alloc | apply pw_below_drewN | apply below_drew1 | refine below_set ?_ GE157.out) | exact HB.out))) : w.heap.size ≤ gb178)); have n11_ := Aside0.mk ((by rw [hg]; exact Nat.ne_of_lt (blk_lt (g := gb157) (o := .cells #[.int .i64 t155, .int .i64 t156] 29 (0, 0)) (by (with_reducible repeat (first | refine blk_drewN ?_ _ | refine blk_drew ?_ | refine blk_alloc ?_ _)); exact BK157.out)) : gb157 ≠ gb178)); have n12_ := Aside0.mk ((by rw [hg]; exact Nat.ne_of_gt (blk_lt (g := gb157) (o := .cells #[.int .i64 t155, .int .i64 t156] 29 (0, 0)) (by (with_reducible repeat (first | refine blk_drewN ?_ _ | refine blk_drew ?_ | refine blk_alloc ?_ _)); exact BK157.out)) : gb178 ≠ gb157)); clear HO152; clear HO154; clear HO163; clear HO166; clear HO172; clear HO175; clear BK157; clear HB; have HO152 := n0_; have HO154 := n1_; have HO163 := n2_; have HO166 := n3_; have HO172 := n4_; have HO175 := n5_; have BK157 := n6_; have HB := n7_; have BK178 := n8_; have GW178 := n9_; have GE178 := n10_; have NB157_178 := n11_; have NB178_157 := n12_; clear n0_ n1_ n2_ n3_ n4_ n5_ n6_ n7_ n8_ n9_ n10_ n11_ n12_; clear hb hbox hg; have hnb60 := NB178_157.out; have hnc60 := NB157_178.out; have hcz61_0 : w59.cell? ⟨gb178, 0, none⟩ = some (.int .i64 0) := (blk_cell BK178.out 0).trans rfl; have hcz61_1 : w59.cell? ⟨gb178, 1, none⟩ = some (.int .i64 0) := (blk_cell BK178.out 1).trans rfl; have hfz61_0 := blk_frozen BK178.out 0; have hfz61_1 := blk_frozen BK178.out 1))
              have n0_ : Aside0 (Kd.R k31 31 ((w59.setCell ⟨gb178, 0, none⟩ (.int .i64 t176)).setCell ⟨gb178, 1, none⟩ (.int .i64 t177)) w.heap.size (fun k_ => some k_ ≠ (v162 : Value).ownBlock ∧ some k_ ≠ (v165 : Value).ownBlock ∧ some k_ ≠ (.slice Ao30 y170.length co30 : Value).ownBlock ∧ some k_ ≠ (.slice Ao57 y173.length co57 : Value).ownBlock) (.slice Ao14 t149.length co14) t149) := ⟨by (with_reducible repeat (first | apply Kd.R_alloc | apply Kd.R_drewN | apply Kd.R_drew)); exact Kd.R_mono (Kd.R_far (p := ⟨gb178, 1, none⟩) (Kd.R_far (p := ⟨gb178, 0, none⟩) (Kd.R_types HO152.out BK178.out (by decide)) (fun _ hk => hk.2) (.int .i64 t176)) (fun _ hk => hk.2) (.int .i64 t177)) (fun _ hk => ⟨hk.1.1.1, ⟨hk.1.1.2.1, ⟨hk.1.1.2.2, hk.1.2⟩⟩⟩)⟩
              have n1_ : Aside0 (Kd.R k44 44 ((w59.setCell ⟨gb178, 0, none⟩ (.int .i64 t176)).setCell ⟨gb178, 1, none⟩ (.int .i64 t177)) w.heap.size (fun _ => True) v153 t150) := ⟨by (with_reducible repeat (first | apply Kd.R_alloc | apply Kd.R_drewN | apply Kd.R_drew)); exact Kd.R_mono (Kd.R_far (p := ⟨gb178, 1, none⟩) (Kd.R_far (p := ⟨gb178, 0, none⟩) (Kd.R_types HO154.out BK178.out (by decide)) (fun _ hk => hk.2) (.int .i64 t176)) (fun _ hk => hk.2) (.int .i64 t177)) (fun _ hk => trivial)⟩
              have n2_ : Aside0 (Kd.R k31 31 ((w59.setCell ⟨gb178, 0, none⟩ (.int .i64 t176)).setCell ⟨gb178, 1, none⟩ (.int .i64 t177)) w.heap.size (fun k_ => some k_ ≠ (.slice Ao14 t149.length co14 : Value).ownBlock ∧ some k_ ≠ (v165 : Value).ownBlock ∧ some k_ ≠ (.slice Ao30 y170.length co30 : Value).ownBlock ∧ some k_ ≠ (.slice Ao57 y173.length co57 : Value).ownBlock) v162 y161) := ⟨by (with_reducible repeat (first | apply Kd.R_alloc | apply Kd.R_drewN | apply Kd.R_drew)); exact Kd.R_mono (Kd.R_far (p := ⟨gb178, 1, none⟩) (Kd.R_far (p := ⟨gb178, 0, none⟩) (Kd.R_types HO163.out BK178.out (by decide)) (fun _ hk => hk.2) (.int .i64 t176)) (fun _ hk => hk.2) (.int .i64 t177)) (fun _ hk => ⟨hk.1.1.1, ⟨hk.1.1.2.1, ⟨hk.1.1.2.2, hk.1.2⟩⟩⟩)⟩
              have n3_ : Aside0 (Kd.R k31 31 ((w59.setCell ⟨gb178, 0, none⟩ (.int .i64 t176)).setCell ⟨gb178, 1, none⟩ (.int .i64 t177)) w.heap.size (fun k_ => some k_ ≠ (.slice Ao14 t149.length co14 : Value).ownBlock ∧ some k_ ≠ (v162 : Value).ownBlock ∧ some k_ ≠ (.slice Ao30 y170.length co30 : Value).ownBlock ∧ some k_ ≠ (.slice Ao57 y173.length co57 : Value).ownBlock) v165 y164) := ⟨by (with_reducible repeat (first | apply Kd.R_alloc | apply Kd.R_drewN | apply Kd.R_drew)); exact Kd.R_mono (Kd.R_far (p := ⟨gb178, 1, none⟩) (Kd.R_far (p := ⟨gb178, 0, none⟩) (Kd.R_types HO166.out BK178.out (by decide)) (fun _ hk => hk.2) (.int .i64 t176)) (fun _ hk => hk.2) (.int .i64 t177)) (fun _ hk => ⟨hk.1.1.1, ⟨hk.1.1.2.1, ⟨hk.1.1.2.2, hk.1.2⟩⟩⟩)⟩
              have n4_ : Aside0 (Kd.R k31 31 ((w59.setCell ⟨gb178, 0, none⟩ (.int .i64 t176)).setCell ⟨gb178, 1, none⟩ (.int .i64 t177)) w.heap.size (fun k_ => some k_ ≠ (.slice Ao14 t149.length co14 : Value).ownBlock ∧ some k_ ≠ (v162 : Value).ownBlock ∧ some k_ ≠ (v165 : Value).ownBlock ∧ some k_ ≠ (.slice Ao57 y173.length co57 : Value).ownBlock) (.slice Ao30 y170.length co30) y170) := ⟨by (with_reducible repeat (first | apply Kd.R_alloc | apply Kd.R_drewN | apply Kd.R_drew)); exact Kd.R_mono (Kd.R_far (p := ⟨gb178, 1, none⟩) (Kd.R_far (p := ⟨gb178, 0, none⟩) (Kd.R_types HO172.out BK178.out (by decide)) (fun _ hk => hk.2) (.int .i64 t176)) (fun _ hk => hk.2) (.int .i64 t177)) (fun _ hk => ⟨hk.1.1.1, ⟨hk.1.1.2.1, ⟨hk.1.1.2.2, hk.1.2⟩⟩⟩)⟩
              have n5_ : Aside0 (Kd.R k31 31 ((w59.setCell ⟨gb178, 0, none⟩ (.int .i64 t176)).setCell ⟨gb178, 1, none⟩ (.int .i64 t177)) w.heap.size (fun k_ => some k_ ≠ (.slice Ao14 t149.length co14 : Value).ownBlock ∧ some k_ ≠ (v162 : Value).ownBlock ∧ some k_ ≠ (v165 : Value).ownBlock ∧ some k_ ≠ (.slice Ao30 y170.length co30 : Value).ownBlock) (.slice Ao57 y173.length co57) y173) := ⟨by (with_reducible repeat (first | apply Kd.R_alloc | apply Kd.R_drewN | apply Kd.R_drew)); exact Kd.R_mono (Kd.R_far (p := ⟨gb178, 1, none⟩) (Kd.R_far (p := ⟨gb178, 0, none⟩) (Kd.R_types HO175.out BK178.out (by decide)) (fun _ hk => hk.2) (.int .i64 t176)) (fun _ hk => hk.2) (.int .i64 t177)) (fun _ hk => ⟨hk.1.1, ⟨hk.1.2.1, ⟨hk.1.2.2.1, hk.1.2.2.2⟩⟩⟩)⟩
              have n6_ : Aside0 (((w59.setCell ⟨gb178, 0, none⟩ (.int .i64 t176)).setCell ⟨gb178, 1, none⟩ (.int .i64 t177)).heap[gb157]? = some (.cells #[.int .i64 t155, .int .i64 t156] 29 (0, 0))) := ⟨by (with_reducible repeat (first | refine blk_drewN ?_ _ | refine blk_drew ?_ | refine blk_alloc ?_ _)); refine blk_far ?_ NB157_178.out _; (with_reducible repeat (first | refine blk_drewN ?_ _ | refine blk_drew ?_ | refine blk_alloc ?_ _)); refine blk_far ?_ NB157_178.out _; (with_reducible repeat (first | refine blk_drewN ?_ _ | refine blk_drew ?_ | refine blk_alloc ?_ _)); exact BK157.out⟩
              have n7_ : Aside0 (((w59.setCell ⟨gb178, 0, none⟩ (.int .i64 t176)).setCell ⟨gb178, 1, none⟩ (.int .i64 t177)).heap[gb178]? = some (.cells #[.int .i64 t176, .int .i64 t177] 29 (0, 0))) := ⟨by (with_reducible repeat (first | refine blk_drewN ?_ _ | refine blk_drew ?_ | refine blk_alloc ?_ _)); refine blk_put (cs := #[.int .i64 t176, .int .i64 0]) ?_ 1 _ rfl; (with_reducible repeat (first | refine blk_drewN ?_ _ | refine blk_drew ?_ | refine blk_alloc ?_ _)); refine blk_put (cs := #[.int .i64 0, .int .i64 0]) ?_ 0 _ rfl; (with_reducible repeat (first | refine blk_drewN ?_ _ | refine blk_drew ?_ | refine blk_alloc ?_ _)); exact BK178.out⟩
              have n8_ : Aside0 (Below w.heap.size w ((w59.setCell ⟨gb178, 0, none⟩ (.int .i64 t176)).setCell ⟨gb178, 1, none⟩ (.int .i64 t177))) := ⟨by repeat (first | (with_reducible first | exact HB.out | apply below_alloc | apply pw_below_drewN | apply below_drew1 | refine below_set ?_ GE157.out | refine below_set ?_ GE178.out) | exact HB.out)⟩
              (try clear HO152)
              (try clear HO154)
              (try clear HO163)
              (try clear HO166)
              (try clear HO172)
              (try clear HO175)
              (try clear BK157)
              (try clear BK178)
              (try clear HB)
              generalize ((w59.setCell ⟨gb178, 0, none⟩ (.int .i64 t176)).setCell ⟨gb178, 1, none⟩ (.int .i64 t177)) = w62 at n0_ n1_ n2_ n3_ n4_ n5_ n6_ n7_ n8_ ⊢
              have HO152 := n0_
              have HO154 := n1_
              have HO163 := n2_
              have HO166 := n3_
              have HO172 := n4_
              have HO175 := n5_
              have BK157 := n6_
              have BK178 := n7_
              have HB := n8_
              clear n0_ n1_ n2_ n3_ n4_ n5_ n6_ n7_ n8_
              have n0_ := Aside0.mk (Kd.R_drew HO152.out)
              have n1_ := Aside0.mk (Kd.R_drew HO154.out)
              have n2_ := Aside0.mk (Kd.R_drew HO163.out)
              have n3_ := Aside0.mk (Kd.R_drew HO166.out)
              have n4_ := Aside0.mk (Kd.R_drew HO172.out)
              have n5_ := Aside0.mk (Kd.R_drew HO175.out)
              have n6_ := Aside0.mk (blk_drew BK157.out)
              have n7_ := Aside0.mk (blk_drew BK178.out)
              have n8_ := Aside0.mk (below_drew1 HB.out)
              clear HO152
              clear HO154
              clear HO163
              clear HO166
              clear HO172
              clear HO175
              clear BK157
              clear BK178
              clear HB
              have HO152 := n0_
              have HO154 := n1_
              have HO163 := n2_
              have HO166 := n3_
              have HO172 := n4_
              have HO175 := n5_
              have BK157 := n6_
              have BK178 := n7_
              have HB := n8_
              clear n0_ n1_ n2_ n3_ n4_ n5_ n6_ n7_ n8_
              refine start_ (n := 20) (S := fun w' => w'.cell? ⟨gb157, 0, none⟩ = some (.int .i64 t155) ∧ w'.cell? ⟨gb157, 1, none⟩ = some (.int .i64 t156) ∧ w'.cell? ⟨gb178, 0, none⟩ = some (.int .i64 t176) ∧ w'.cell? ⟨gb178, 1, none⟩ = some (.int .i64 t177)) (ds := []) #[false, false, false, false, false, false, false, false, false, false, false, false, false, false, false, false, false, false, false, false] (by kernel_rfl) rfl rfl ⟨(blk_cell BK157.out 0).trans rfl, (blk_cell BK157.out 1).trans rfl, (blk_cell BK178.out 0).trans rfl, (blk_cell BK178.out 1).trans rfl⟩ (fun hHeld => ?_); refine with_tabW plaitinglaw15_VoteGrows.tab8 plaitinglaw15_VoteGrows.bits8 (fun HT_ HW_ => ?_)
              generalize w62.drew = w63 at HO152 HO154 HO163 HO166 HO172 HO175 BK157 BK178 HB hHeld ⊢
              refine pure_ (i := 1) (N := some 34) (v := ?_) (a' := ?_) #[false, true, false, false, false, false, false, false, false, false, false, false, false, false, false, false, false, false, false, false] rfl rfl (any_of HT_.out (by kernel_rfl)) (fun _ _ _ h => h) (Or.inl ⟨by rfl, ?_⟩) ?_ ?_
              rotate_left
              · intro w'
                go_simp
                with_reducible rfl
              rotate_left
              · simp only [Act.put, List.setIfInBounds_toArray, List.set_cons_zero, List.set_cons_succ, i64_w, i32_w]
                rfl
              refine take_ (i := 0) (N := some 33) (v := ?_) (a' := ?_) #[true, true, false, false, false, false, false, false, false, false, false, false, false, false, false, false, false, false, false, false] rfl rfl (take_ofW HT_.out HW_.out (by kernel_rfl)) (fun _ _ _ h => h) (Or.inl ⟨by rfl, ?_⟩) hHeld ?_ ?_
              rotate_left
              · rintro w' ⟨s0, s1, s2, s3⟩
                go_simp
                with_reducible rfl
              rotate_left
              · simp only [Act.put, List.setIfInBounds_toArray, List.set_cons_zero, List.set_cons_succ, i64_w, i32_w]
                rfl
              refine pure_ (i := 2) (N := some 35) (v := ?_) (a' := ?_) #[true, true, true, false, false, false, false, false, false, false, false, false, false, false, false, false, false, false, false, false] rfl rfl (any_of HT_.out (by kernel_rfl)) (fun _ _ _ h => h) (Or.inl ⟨by rfl, ?_⟩) ?_ ?_
              rotate_left
              · intro w'
                go_simp
                with_reducible rfl
              rotate_left
              · simp only [Act.put, List.setIfInBounds_toArray, List.set_cons_zero, List.set_cons_succ, i64_w, i32_w]
                rfl
              refine pure_ (i := 3) (N := some 36) (v := ?_) (a' := ?_) #[true, true, true, true, false, false, false, false, false, false, false, false, false, false, false, false, false, false, false, false] rfl rfl (any_of HT_.out (by kernel_rfl)) (fun _ _ _ h => h) (Or.inl ⟨by rfl, ?_⟩) ?_ ?_
              rotate_left
              · intro w'
                go_simp
                with_reducible rfl
              rotate_left
              · simp only [Act.put, List.setIfInBounds_toArray, List.set_cons_zero, List.set_cons_succ, i64_w, i32_w]
                rfl
              refine pure_ (i := 4) (N := some 37) (v := undef) (a' := ?_) #[true, true, true, true, true, false, false, false, false, false, false, false, false, false, false, false, false, false, false, false] rfl rfl (any_of HT_.out (by kernel_rfl)) (fun _ _ _ h => h) (Or.inr ⟨by rfl, rfl⟩) ?_ ?_
              rotate_left
              · simp only [Act.put, List.setIfInBounds_toArray, List.set_cons_zero, List.set_cons_succ, i64_w, i32_w]
                rfl
              refine pure_ (i := 5) (N := some 38) (v := undef) (a' := ?_) #[true, true, true, true, true, true, false, false, false, false, false, false, false, false, false, false, false, false, false, false] rfl rfl (any_of HT_.out (by kernel_rfl)) (fun _ _ _ h => h) (Or.inr ⟨by rfl, rfl⟩) ?_ ?_
              rotate_left
              · simp only [Act.put, List.setIfInBounds_toArray, List.set_cons_zero, List.set_cons_succ, i64_w, i32_w]
                rfl
              refine pure_ (i := 6) (N := some 39) (v := undef) (a' := ?_) #[true, true, true, true, true, true, true, false, false, false, false, false, false, false, false, false, false, false, false, false] rfl rfl (any_of HT_.out (by kernel_rfl)) (fun _ _ _ h => h) (Or.inr ⟨by rfl, rfl⟩) ?_ ?_
              rotate_left
              · simp only [Act.put, List.setIfInBounds_toArray, List.set_cons_zero, List.set_cons_succ, i64_w, i32_w]
                rfl
              refine pure_ (i := 7) (N := some 40) (v := undef) (a' := ?_) #[true, true, true, true, true, true, true, true, false, false, false, false, false, false, false, false, false, false, false, false] rfl rfl (any_of HT_.out (by kernel_rfl)) (fun _ _ _ h => h) (Or.inr ⟨by rfl, rfl⟩) ?_ ?_
              rotate_left
              · simp only [Act.put, List.setIfInBounds_toArray, List.set_cons_zero, List.set_cons_succ, i64_w, i32_w]
                rfl
              refine pure_ (i := 8) (N := some 41) (v := ?_) (a' := ?_) #[true, true, true, true, true, true, true, true, true, false, false, false, false, false, false, false, false, false, false, false] rfl rfl (any_of HT_.out (by kernel_rfl)) (fun _ _ _ h => h) (Or.inl ⟨by rfl, ?_⟩) ?_ ?_
              rotate_left
              · intro w'
                go_simp
                with_reducible rfl
              rotate_left
              · simp only [Act.put, List.setIfInBounds_toArray, List.set_cons_zero, List.set_cons_succ, i64_w, i32_w]
                rfl
              refine pure_ (i := 9) (N := some 42) (v := ?_) (a' := ?_) #[true, true, true, true, true, true, true, true, true, true, false, false, false, false, false, false, false, false, false, false] rfl rfl (any_of HT_.out (by kernel_rfl)) (fun _ _ _ h => h) (Or.inl ⟨by rfl, ?_⟩) ?_ ?_
              rotate_left
              · intro w'
                go_simp
                with_reducible rfl
              rotate_left
              · simp only [Act.put, List.setIfInBounds_toArray, List.set_cons_zero, List.set_cons_succ, i64_w, i32_w]
                rfl
              refine take_ (i := 10) (N := some 43) (v := ?_) (a' := ?_) #[true, true, true, true, true, true, true, true, true, true, true, false, false, false, false, false, false, false, false, false] rfl rfl (take_ofW HT_.out HW_.out (by kernel_rfl)) (fun _ _ _ h => h) (Or.inl ⟨by rfl, ?_⟩) hHeld ?_ ?_
              rotate_left
              · rintro w' ⟨s0, s1, s2, s3⟩
                go_simp
                with_reducible rfl
              rotate_left
              · simp only [Act.put, List.setIfInBounds_toArray, List.set_cons_zero, List.set_cons_succ, i64_w, i32_w]
                rfl
              refine take_ (i := 11) (N := some 44) (v := ?_) (a' := ?_) #[true, true, true, true, true, true, true, true, true, true, true, true, false, false, false, false, false, false, false, false] rfl rfl (take_ofW HT_.out HW_.out (by kernel_rfl)) (fun _ _ _ h => h) (Or.inl ⟨by rfl, ?_⟩) hHeld ?_ ?_
              rotate_left
              · rintro w' ⟨s0, s1, s2, s3⟩
                go_simp
                with_reducible rfl
              rotate_left
              · simp only [Act.put, List.setIfInBounds_toArray, List.set_cons_zero, List.set_cons_succ, i64_w, i32_w]
                rfl
              refine pure_ (i := 12) (N := some 45) (v := ?_) (a' := ?_) #[true, true, true, true, true, true, true, true, true, true, true, true, true, false, false, false, false, false, false, false] rfl rfl (any_of HT_.out (by kernel_rfl)) (fun _ _ _ h => h) (Or.inl ⟨by rfl, ?_⟩) ?_ ?_
              rotate_left
              · intro w'
                go_simp
                with_reducible rfl
              rotate_left
              · simp only [Act.put, List.setIfInBounds_toArray, List.set_cons_zero, List.set_cons_succ, i64_w, i32_w]
                rfl
              refine pure_ (i := 13) (N := some 46) (v := ?_) (a' := ?_) #[true, true, true, true, true, true, true, true, true, true, true, true, true, true, false, false, false, false, false, false] rfl rfl (any_of HT_.out (by kernel_rfl)) (fun _ _ _ h => h) (Or.inl ⟨by rfl, ?_⟩) ?_ ?_
              rotate_left
              · intro w'
                go_simp
                with_reducible rfl
              rotate_left
              · simp only [Act.put, List.setIfInBounds_toArray, List.set_cons_zero, List.set_cons_succ, i64_w, i32_w]
                rfl
              refine pure_ (i := 15) (N := some 48) (v := ?_) (a' := ?_) #[true, true, true, true, true, true, true, true, true, true, true, true, true, true, false, true, false, false, false, false] rfl rfl (any_of HT_.out (by kernel_rfl)) (fun _ _ _ h => h) (Or.inl ⟨by rfl, ?_⟩) ?_ ?_
              rotate_left
              · intro w'
                go_simp
                with_reducible rfl
              rotate_left
              · simp only [Act.put, List.setIfInBounds_toArray, List.set_cons_zero, List.set_cons_succ, i64_w, i32_w]
                rfl
              refine take_ (i := 14) (N := some 47) (v := ?_) (a' := ?_) #[true, true, true, true, true, true, true, true, true, true, true, true, true, true, true, true, false, false, false, false] rfl rfl (take_ofW HT_.out HW_.out (by kernel_rfl)) (fun _ _ _ h => h) (Or.inl ⟨by rfl, ?_⟩) hHeld ?_ ?_
              rotate_left
              · rintro w' ⟨s0, s1, s2, s3⟩
                go_simp
                with_reducible rfl
              rotate_left
              · simp only [Act.put, List.setIfInBounds_toArray, List.set_cons_zero, List.set_cons_succ, i64_w, i32_w]
                rfl
              refine pure_ (i := 16) (N := some 49) (v := ?_) (a' := ?_) #[true, true, true, true, true, true, true, true, true, true, true, true, true, true, true, true, true, false, false, false] rfl rfl (any_of HT_.out (by kernel_rfl)) (fun _ _ _ h => h) (Or.inl ⟨by rfl, ?_⟩) ?_ ?_
              rotate_left
              · intro w'
                go_simp
                with_reducible rfl
              rotate_left
              · simp only [Act.put, List.setIfInBounds_toArray, List.set_cons_zero, List.set_cons_succ, i64_w, i32_w]
                rfl
              refine pure_ (i := 17) (N := some 50) (v := ?_) (a' := ?_) #[true, true, true, true, true, true, true, true, true, true, true, true, true, true, true, true, true, true, false, false] rfl rfl (any_of HT_.out (by kernel_rfl)) (fun _ _ _ h => h) (Or.inl ⟨by rfl, ?_⟩) ?_ ?_
              rotate_left
              · intro w'
                go_simp
                with_reducible rfl
              rotate_left
              · simp only [Act.put, List.setIfInBounds_toArray, List.set_cons_zero, List.set_cons_succ, i64_w, i32_w]
                rfl
              refine pure_ (i := 18) (N := some 51) (v := ?_) (a' := ?_) #[true, true, true, true, true, true, true, true, true, true, true, true, true, true, true, true, true, true, true, false] rfl rfl (any_of HT_.out (by kernel_rfl)) (fun _ _ _ h => h) (Or.inl ⟨by rfl, ?_⟩) ?_ ?_
              rotate_left
              · intro w'
                go_simp
                with_reducible rfl
              rotate_left
              · simp only [Act.put, List.setIfInBounds_toArray, List.set_cons_zero, List.set_cons_succ, i64_w, i32_w]
                rfl
              refine pure_ (i := 19) (N := some 2) (v := ?_) (a' := ?_) #[true, true, true, true, true, true, true, true, true, true, true, true, true, true, true, true, true, true, true, true] rfl rfl (any_of HT_.out (by kernel_rfl)) (fun _ _ _ h => h) (Or.inl ⟨by rfl, ?_⟩) ?_ ?_
              rotate_left
              · intro w'
                go_simp
                with_reducible rfl
              rotate_left
              · simp only [Act.put, List.setIfInBounds_toArray, List.set_cons_zero, List.set_cons_succ, i64_w, i32_w]
                rfl
              refine done_ (done_of HT_.out (by kernel_rfl)) ?_
              try go_wp2
              go_ret
              exact ⟨by first | rfl | (simp [errW_none, errW_some] <;> rfl) | (simp [*, errW_none, errW_some] <;> rfl), by repeat (first | (with_reducible first | exact HB.out | apply below_alloc | apply pw_below_drewN | apply below_drew1 | refine below_set ?_ GE157.out | refine below_set ?_ GE178.out) | exact HB.out)⟩
          · rw [if_neg c10] at H
            have c10b0 : (t155 == 0 && (t156 == 0)) = false := by simpa using c10
            (try (have c10b1 : decide (t155 = 0 && (t156 == 0)) = false := by simpa using c10))
            (try (have c10b2 : (t155 == 0 && (t156 == 0)) = false := by simpa using c10))
            (try (have c10b3 : ¬ (t155 = 0 && (t156 == 0)) := by simpa using c10))
            clear c10
            replace H := Option.bind_eq_some_iff.mp H
            obtain ⟨⟨t179, t180⟩, A640, H⟩ := H
            replace H : (if (t179 == t155 && (t180 == t156)) = true then (if (t176 == t155 && (t177 == t156)) = true then (some true) else (some (t176 == 0 && (t177 == 0)))) else (some false)) = some r := H
            have A64 := Aside0.mk A640
            clear A640
            by_cases c65 : (t179 == t155 && (t180 == t156)) = true
            · rw [if_pos c65] at H
              have c65b0 : (t179 == t155 && (t180 == t156)) = true := c65
              (try (have c65b1 : decide (t179 = t155 && (t180 == t156)) = true := by simpa using c65))
              (try (have c65b2 : (t179 == t155 && (t180 == t156)) = true := by simpa using c65))
              clear c65
              by_cases c66 : (t176 == t155 && (t177 == t156)) = true
              · rw [if_pos c66] at H
                have c66b0 : (t176 == t155 && (t177 == t156)) = true := c66
                (try (have c66b1 : decide (t176 = t155 && (t177 == t156)) = true := by simpa using c66))
                (try (have c66b2 : (t176 == t155 && (t177 == t156)) = true := by simpa using c66))
                clear c66
                obtain rfl := Option.some.inj H
                obtain ⟨Ao86, co86, eo86⟩ := Kd.R_slice HO175.out
                subst eo86
                try go_wp2_with (first | ((with_reducible refine gate_callee (f := 12) rfl ?_); refine goesL_ (some 32) rfl rfl Try.func12 (by kernel_rfl) rfl #[.slice Ao86 y173.length co86] rfl (by (try simp only [List.map_toArray, List.map_cons, List.map_nil]); first | done | rfl | (simp only [List.length_drop, List.length_take]; rfl)) ?_; (with_reducible refine (vote_Most.calls k _ _ y173 t176 t177 _ ?side1 ?side2 A9.out).mono ?_); (case side1 => repeat (first | exact (Kd.R_reads' HO175.out).2.2 | (with_reducible refine Kd.C_alloc ?_ _) | (with_reducible refine Kd.C_drewN ?_ _) | (with_reducible refine Kd.C_drew ?_))); (case side2 => exact (Kd.R_reads' HO175.out).2.1); rintro e w87 ⟨rfl, hb⟩; refine ⟨_, rfl, ?_⟩; have n0_ := Aside0.mk (Kd.R_below (by (with_reducible repeat (first | apply Kd.R_alloc | apply Kd.R_drewN | apply Kd.R_drew)); exact HO152.out) hb); have n1_ := Aside0.mk (Kd.R_below (by (with_reducible repeat (first | apply Kd.R_alloc | apply Kd.R_drewN | apply Kd.R_drew)); exact HO154.out) hb); have n2_ := Aside0.mk (Kd.R_below (by (with_reducible repeat (first | apply Kd.R_alloc | apply Kd.R_drewN | apply Kd.R_drew)); exact HO163.out) hb); have n3_ := Aside0.mk (Kd.R_below (by (with_reducible repeat (first | apply Kd.R_alloc | apply Kd.R_drewN | apply Kd.R_drew)); exact HO166.out) hb); have n4_ := Aside0.mk (Kd.R_below (by (with_reducible repeat (first | apply Kd.R_alloc | apply Kd.R_drewN | apply Kd.R_drew)); exact HO172.out) hb); have n5_ := Aside0.mk (Kd.R_below (by (with_reducible repeat (first | apply Kd.R_alloc | apply Kd.R_drewN | apply Kd.R_drew)); exact HO175.out) hb); have n6_ := Aside0.mk (blk_below (g := gb157) (o := .cells #[.int .i64 t155, .int .i64 t156] 29 (0, 0)) (by (with_reducible repeat (first | refine blk_drewN ?_ _ | refine blk_drew ?_ | refine blk_alloc ?_ _)); exact BK157.out) hb); have n7_ := Aside0.mk (below_step (by repeat (first | (with_reducible first | exact HB.out | apply below_alloc | apply pw_below_drewN | apply below_drew1 | refine below_set ?_ GE157.out) | exact HB.out)) hb); clear HO152; clear HO154; clear HO163; clear HO166; clear HO172; clear HO175; clear BK157; clear HB; have HO152 := n0_; have HO154 := n1_; have HO163 := n2_; have HO166 := n3_; have HO172 := n4_; have HO175 := n5_; have BK157 := n6_; have HB := n7_; clear n0_ n1_ n2_ n3_ n4_ n5_ n6_ n7_; (try clear hb); (try clear hb2); (try clear hk); (try clear hi)) | ((with_reducible refine gate_dst (N := 8) rfl ?_); refine box_event ?hg (N := 8) ?hd (cs := #[.int .i64 0, .int .i64 0]) (t := 29) ?hr ?_; (case hd => rfl); (case hg => rfl); (case hr => first | (go_simp; done) | (go_simp; rfl)); intro gb178 hg w88 hbox hb; have n0_ := Aside0.mk (Kd.R_below (by (with_reducible repeat (first | apply Kd.R_alloc | apply Kd.R_drewN | apply Kd.R_drew)); exact HO152.out) hb); have n1_ := Aside0.mk (Kd.R_below (by (with_reducible repeat (first | apply Kd.R_alloc | apply Kd.R_drewN | apply Kd.R_drew)); exact HO154.out) hb); have n2_ := Aside0.mk (Kd.R_below (by (with_reducible repeat (first | apply Kd.R_alloc | apply Kd.R_drewN | apply Kd.R_drew)); exact HO163.out) hb); have n3_ := Aside0.mk (Kd.R_below (by (with_reducible repeat (first | apply Kd.R_alloc | apply Kd.R_drewN | apply Kd.R_drew)); exact HO166.out) hb); have n4_ := Aside0.mk (Kd.R_below (by (with_reducible repeat (first | apply Kd.R_alloc | apply Kd.R_drewN | apply Kd.R_drew)); exact HO172.out) hb); have n5_ := Aside0.mk (Kd.R_below (by (with_reducible repeat (first | apply Kd.R_alloc | apply Kd.R_drewN | apply Kd.R_drew)); exact HO175.out) hb); have n6_ := Aside0.mk (blk_below (g := gb157) (o := .cells #[.int .i64 t155, .int .i64 t156] 29 (0, 0)) (by (with_reducible repeat (first | refine blk_drewN ?_ _ | refine blk_drew ?_ | refine blk_alloc ?_ _)); exact BK157.out) hb); have n7_ := Aside0.mk (below_step (by repeat (first | (with_reducible first | exact HB.out | apply below_alloc | apply pw_below_drewN | apply below_drew1 | refine below_set ?_ GE157.out) | exact HB.out)) hb); have n8_ := Aside0.mk (hbox); have n9_ := Aside0.mk ((by rw [hg]; exact (below_size (by repeat (first | (with_reducible first | exact HB.out | apply below_alloc | apply pw_below_drewN | apply below_drew1 | refine below_set ?_ GE157.out) | exact HB.out))) : w.heap.size ≤ gb178)); have n10_ := Aside0.mk ((by rw [hg]; exact (below_size (by repeat (first | (with_reducible first | exact HB.out | apply below_alloc | apply pw_below_drewN | apply below_drew1 | refine below_set ?_ GE157.out) | exact HB.out))) : w.heap.size ≤ gb178)); have n11_ := Aside0.mk ((by rw [hg]; exact Nat.ne_of_lt (blk_lt (g := gb157) (o := .cells #[.int .i64 t155, .int .i64 t156] 29 (0, 0)) (by (with_reducible repeat (first | refine blk_drewN ?_ _ | refine blk_drew ?_ | refine blk_alloc ?_ _)); exact BK157.out)) : gb157 ≠ gb178)); have n12_ := Aside0.mk ((by rw [hg]; exact Nat.ne_of_gt (blk_lt (g := gb157) (o := .cells #[.int .i64 t155, .int .i64 t156] 29 (0, 0)) (by (with_reducible repeat (first | refine blk_drewN ?_ _ | refine blk_drew ?_ | refine blk_alloc ?_ _)); exact BK157.out)) : gb178 ≠ gb157)); clear HO152; clear HO154; clear HO163; clear HO166; clear HO172; clear HO175; clear BK157; clear HB; have HO152 := n0_; have HO154 := n1_; have HO163 := n2_; have HO166 := n3_; have HO172 := n4_; have HO175 := n5_; have BK157 := n6_; have HB := n7_; have BK178 := n8_; have GW178 := n9_; have GE178 := n10_; have NB157_178 := n11_; have NB178_157 := n12_; clear n0_ n1_ n2_ n3_ n4_ n5_ n6_ n7_ n8_ n9_ n10_ n11_ n12_; clear hb hbox hg; have hnb89 := NB178_157.out; have hnc89 := NB157_178.out; have hcz90_0 : w88.cell? ⟨gb178, 0, none⟩ = some (.int .i64 0) := (blk_cell BK178.out 0).trans rfl; have hcz90_1 : w88.cell? ⟨gb178, 1, none⟩ = some (.int .i64 0) := (blk_cell BK178.out 1).trans rfl; have hfz90_0 := blk_frozen BK178.out 0; have hfz90_1 := blk_frozen BK178.out 1))
                have n0_ : Aside0 (Kd.R k31 31 ((w88.setCell ⟨gb178, 0, none⟩ (.int .i64 t176)).setCell ⟨gb178, 1, none⟩ (.int .i64 t177)) w.heap.size (fun k_ => some k_ ≠ (v162 : Value).ownBlock ∧ some k_ ≠ (v165 : Value).ownBlock ∧ some k_ ≠ (.slice Ao30 y170.length co30 : Value).ownBlock ∧ some k_ ≠ (.slice Ao86 y173.length co86 : Value).ownBlock) (.slice Ao14 t149.length co14) t149) := ⟨by (with_reducible repeat (first | apply Kd.R_alloc | apply Kd.R_drewN | apply Kd.R_drew)); exact Kd.R_mono (Kd.R_far (p := ⟨gb178, 1, none⟩) (Kd.R_far (p := ⟨gb178, 0, none⟩) (Kd.R_types HO152.out BK178.out (by decide)) (fun _ hk => hk.2) (.int .i64 t176)) (fun _ hk => hk.2) (.int .i64 t177)) (fun _ hk => ⟨hk.1.1.1, ⟨hk.1.1.2.1, ⟨hk.1.1.2.2, hk.1.2⟩⟩⟩)⟩
                have n1_ : Aside0 (Kd.R k44 44 ((w88.setCell ⟨gb178, 0, none⟩ (.int .i64 t176)).setCell ⟨gb178, 1, none⟩ (.int .i64 t177)) w.heap.size (fun _ => True) v153 t150) := ⟨by (with_reducible repeat (first | apply Kd.R_alloc | apply Kd.R_drewN | apply Kd.R_drew)); exact Kd.R_mono (Kd.R_far (p := ⟨gb178, 1, none⟩) (Kd.R_far (p := ⟨gb178, 0, none⟩) (Kd.R_types HO154.out BK178.out (by decide)) (fun _ hk => hk.2) (.int .i64 t176)) (fun _ hk => hk.2) (.int .i64 t177)) (fun _ hk => trivial)⟩
                have n2_ : Aside0 (Kd.R k31 31 ((w88.setCell ⟨gb178, 0, none⟩ (.int .i64 t176)).setCell ⟨gb178, 1, none⟩ (.int .i64 t177)) w.heap.size (fun k_ => some k_ ≠ (.slice Ao14 t149.length co14 : Value).ownBlock ∧ some k_ ≠ (v165 : Value).ownBlock ∧ some k_ ≠ (.slice Ao30 y170.length co30 : Value).ownBlock ∧ some k_ ≠ (.slice Ao86 y173.length co86 : Value).ownBlock) v162 y161) := ⟨by (with_reducible repeat (first | apply Kd.R_alloc | apply Kd.R_drewN | apply Kd.R_drew)); exact Kd.R_mono (Kd.R_far (p := ⟨gb178, 1, none⟩) (Kd.R_far (p := ⟨gb178, 0, none⟩) (Kd.R_types HO163.out BK178.out (by decide)) (fun _ hk => hk.2) (.int .i64 t176)) (fun _ hk => hk.2) (.int .i64 t177)) (fun _ hk => ⟨hk.1.1.1, ⟨hk.1.1.2.1, ⟨hk.1.1.2.2, hk.1.2⟩⟩⟩)⟩
                have n3_ : Aside0 (Kd.R k31 31 ((w88.setCell ⟨gb178, 0, none⟩ (.int .i64 t176)).setCell ⟨gb178, 1, none⟩ (.int .i64 t177)) w.heap.size (fun k_ => some k_ ≠ (.slice Ao14 t149.length co14 : Value).ownBlock ∧ some k_ ≠ (v162 : Value).ownBlock ∧ some k_ ≠ (.slice Ao30 y170.length co30 : Value).ownBlock ∧ some k_ ≠ (.slice Ao86 y173.length co86 : Value).ownBlock) v165 y164) := ⟨by (with_reducible repeat (first | apply Kd.R_alloc | apply Kd.R_drewN | apply Kd.R_drew)); exact Kd.R_mono (Kd.R_far (p := ⟨gb178, 1, none⟩) (Kd.R_far (p := ⟨gb178, 0, none⟩) (Kd.R_types HO166.out BK178.out (by decide)) (fun _ hk => hk.2) (.int .i64 t176)) (fun _ hk => hk.2) (.int .i64 t177)) (fun _ hk => ⟨hk.1.1.1, ⟨hk.1.1.2.1, ⟨hk.1.1.2.2, hk.1.2⟩⟩⟩)⟩
                have n4_ : Aside0 (Kd.R k31 31 ((w88.setCell ⟨gb178, 0, none⟩ (.int .i64 t176)).setCell ⟨gb178, 1, none⟩ (.int .i64 t177)) w.heap.size (fun k_ => some k_ ≠ (.slice Ao14 t149.length co14 : Value).ownBlock ∧ some k_ ≠ (v162 : Value).ownBlock ∧ some k_ ≠ (v165 : Value).ownBlock ∧ some k_ ≠ (.slice Ao86 y173.length co86 : Value).ownBlock) (.slice Ao30 y170.length co30) y170) := ⟨by (with_reducible repeat (first | apply Kd.R_alloc | apply Kd.R_drewN | apply Kd.R_drew)); exact Kd.R_mono (Kd.R_far (p := ⟨gb178, 1, none⟩) (Kd.R_far (p := ⟨gb178, 0, none⟩) (Kd.R_types HO172.out BK178.out (by decide)) (fun _ hk => hk.2) (.int .i64 t176)) (fun _ hk => hk.2) (.int .i64 t177)) (fun _ hk => ⟨hk.1.1.1, ⟨hk.1.1.2.1, ⟨hk.1.1.2.2, hk.1.2⟩⟩⟩)⟩
                have n5_ : Aside0 (Kd.R k31 31 ((w88.setCell ⟨gb178, 0, none⟩ (.int .i64 t176)).setCell ⟨gb178, 1, none⟩ (.int .i64 t177)) w.heap.size (fun k_ => some k_ ≠ (.slice Ao14 t149.length co14 : Value).ownBlock ∧ some k_ ≠ (v162 : Value).ownBlock ∧ some k_ ≠ (v165 : Value).ownBlock ∧ some k_ ≠ (.slice Ao30 y170.length co30 : Value).ownBlock) (.slice Ao86 y173.length co86) y173) := ⟨by (with_reducible repeat (first | apply Kd.R_alloc | apply Kd.R_drewN | apply Kd.R_drew)); exact Kd.R_mono (Kd.R_far (p := ⟨gb178, 1, none⟩) (Kd.R_far (p := ⟨gb178, 0, none⟩) (Kd.R_types HO175.out BK178.out (by decide)) (fun _ hk => hk.2) (.int .i64 t176)) (fun _ hk => hk.2) (.int .i64 t177)) (fun _ hk => ⟨hk.1.1, ⟨hk.1.2.1, ⟨hk.1.2.2.1, hk.1.2.2.2⟩⟩⟩)⟩
                have n6_ : Aside0 (((w88.setCell ⟨gb178, 0, none⟩ (.int .i64 t176)).setCell ⟨gb178, 1, none⟩ (.int .i64 t177)).heap[gb157]? = some (.cells #[.int .i64 t155, .int .i64 t156] 29 (0, 0))) := ⟨by (with_reducible repeat (first | refine blk_drewN ?_ _ | refine blk_drew ?_ | refine blk_alloc ?_ _)); refine blk_far ?_ NB157_178.out _; (with_reducible repeat (first | refine blk_drewN ?_ _ | refine blk_drew ?_ | refine blk_alloc ?_ _)); refine blk_far ?_ NB157_178.out _; (with_reducible repeat (first | refine blk_drewN ?_ _ | refine blk_drew ?_ | refine blk_alloc ?_ _)); exact BK157.out⟩
                have n7_ : Aside0 (((w88.setCell ⟨gb178, 0, none⟩ (.int .i64 t176)).setCell ⟨gb178, 1, none⟩ (.int .i64 t177)).heap[gb178]? = some (.cells #[.int .i64 t176, .int .i64 t177] 29 (0, 0))) := ⟨by (with_reducible repeat (first | refine blk_drewN ?_ _ | refine blk_drew ?_ | refine blk_alloc ?_ _)); refine blk_put (cs := #[.int .i64 t176, .int .i64 0]) ?_ 1 _ rfl; (with_reducible repeat (first | refine blk_drewN ?_ _ | refine blk_drew ?_ | refine blk_alloc ?_ _)); refine blk_put (cs := #[.int .i64 0, .int .i64 0]) ?_ 0 _ rfl; (with_reducible repeat (first | refine blk_drewN ?_ _ | refine blk_drew ?_ | refine blk_alloc ?_ _)); exact BK178.out⟩
                have n8_ : Aside0 (Below w.heap.size w ((w88.setCell ⟨gb178, 0, none⟩ (.int .i64 t176)).setCell ⟨gb178, 1, none⟩ (.int .i64 t177))) := ⟨by repeat (first | (with_reducible first | exact HB.out | apply below_alloc | apply pw_below_drewN | apply below_drew1 | refine below_set ?_ GE157.out | refine below_set ?_ GE178.out) | exact HB.out)⟩
                (try clear HO152)
                (try clear HO154)
                (try clear HO163)
                (try clear HO166)
                (try clear HO172)
                (try clear HO175)
                (try clear BK157)
                (try clear BK178)
                (try clear HB)
                generalize ((w88.setCell ⟨gb178, 0, none⟩ (.int .i64 t176)).setCell ⟨gb178, 1, none⟩ (.int .i64 t177)) = w91 at n0_ n1_ n2_ n3_ n4_ n5_ n6_ n7_ n8_ ⊢
                have HO152 := n0_
                have HO154 := n1_
                have HO163 := n2_
                have HO166 := n3_
                have HO172 := n4_
                have HO175 := n5_
                have BK157 := n6_
                have BK178 := n7_
                have HB := n8_
                clear n0_ n1_ n2_ n3_ n4_ n5_ n6_ n7_ n8_
                have n0_ := Aside0.mk (Kd.R_drew HO152.out)
                have n1_ := Aside0.mk (Kd.R_drew HO154.out)
                have n2_ := Aside0.mk (Kd.R_drew HO163.out)
                have n3_ := Aside0.mk (Kd.R_drew HO166.out)
                have n4_ := Aside0.mk (Kd.R_drew HO172.out)
                have n5_ := Aside0.mk (Kd.R_drew HO175.out)
                have n6_ := Aside0.mk (blk_drew BK157.out)
                have n7_ := Aside0.mk (blk_drew BK178.out)
                have n8_ := Aside0.mk (below_drew1 HB.out)
                clear HO152
                clear HO154
                clear HO163
                clear HO166
                clear HO172
                clear HO175
                clear BK157
                clear BK178
                clear HB
                have HO152 := n0_
                have HO154 := n1_
                have HO163 := n2_
                have HO166 := n3_
                have HO172 := n4_
                have HO175 := n5_
                have BK157 := n6_
                have BK178 := n7_
                have HB := n8_
                clear n0_ n1_ n2_ n3_ n4_ n5_ n6_ n7_ n8_
                obtain ⟨Ao93, co93, eo93⟩ := Kd.R_slice HO166.out
                (first | subst eo93 | (injection eo93 with f1_ f2_ f3_; have f4_ := f1_.symm; have f5_ := f3_.symm; clear f1_ f2_ f3_; subst f4_; subst f5_))
                refine start_ (n := 20) (S := fun w' => w'.cell? ⟨gb157, 0, none⟩ = some (.int .i64 t155) ∧ w'.cell? ⟨gb157, 1, none⟩ = some (.int .i64 t156) ∧ w'.cell? ⟨gb178, 0, none⟩ = some (.int .i64 t176) ∧ w'.cell? ⟨gb178, 1, none⟩ = some (.int .i64 t177)) (ds := []) #[false, false, false, false, false, false, false, false, false, false, false, false, false, false, false, false, false, false, false, false] (by kernel_rfl) rfl rfl ⟨(blk_cell BK157.out 0).trans rfl, (blk_cell BK157.out 1).trans rfl, (blk_cell BK178.out 0).trans rfl, (blk_cell BK178.out 1).trans rfl⟩ (fun hHeld => ?_); refine with_tabW plaitinglaw15_VoteGrows.tab8 plaitinglaw15_VoteGrows.bits8 (fun HT_ HW_ => ?_)
                generalize w91.drew = w92 at HO152 HO154 HO163 HO166 HO172 HO175 BK157 BK178 HB hHeld ⊢
                refine pure_ (i := 1) (N := some 34) (v := ?_) (a' := ?_) #[false, true, false, false, false, false, false, false, false, false, false, false, false, false, false, false, false, false, false, false] rfl rfl (any_of HT_.out (by kernel_rfl)) (fun _ _ _ h => h) (Or.inl ⟨by rfl, ?_⟩) ?_ ?_
                rotate_left
                · intro w'
                  go_simp
                  with_reducible rfl
                rotate_left
                · simp only [Act.put, List.setIfInBounds_toArray, List.set_cons_zero, List.set_cons_succ, i64_w, i32_w]
                  rfl
                refine take_ (i := 0) (N := some 33) (v := ?_) (a' := ?_) #[true, true, false, false, false, false, false, false, false, false, false, false, false, false, false, false, false, false, false, false] rfl rfl (take_ofW HT_.out HW_.out (by kernel_rfl)) (fun _ _ _ h => h) (Or.inl ⟨by rfl, ?_⟩) hHeld ?_ ?_
                rotate_left
                · rintro w' ⟨s0, s1, s2, s3⟩
                  go_simp
                  with_reducible rfl
                rotate_left
                · simp only [Act.put, List.setIfInBounds_toArray, List.set_cons_zero, List.set_cons_succ, i64_w, i32_w]
                  rfl
                refine pure_ (i := 2) (N := some 35) (v := ?_) (a' := ?_) #[true, true, true, false, false, false, false, false, false, false, false, false, false, false, false, false, false, false, false, false] rfl rfl (any_of HT_.out (by kernel_rfl)) (fun _ _ _ h => h) (Or.inl ⟨by rfl, ?_⟩) ?_ ?_
                rotate_left
                · intro w'
                  go_simp
                  with_reducible rfl
                rotate_left
                · simp only [Act.put, List.setIfInBounds_toArray, List.set_cons_zero, List.set_cons_succ, i64_w, i32_w]
                  rfl
                refine pure_ (i := 3) (N := some 36) (v := ?_) (a' := ?_) #[true, true, true, true, false, false, false, false, false, false, false, false, false, false, false, false, false, false, false, false] rfl rfl (any_of HT_.out (by kernel_rfl)) (fun _ _ _ h => h) (Or.inl ⟨by rfl, ?_⟩) ?_ ?_
                rotate_left
                · intro w'
                  go_simp
                  with_reducible rfl
                rotate_left
                · simp only [Act.put, List.setIfInBounds_toArray, List.set_cons_zero, List.set_cons_succ, i64_w, i32_w]
                  rfl
                refine pure_ (i := 4) (N := some 37) (v := ?_) (a' := ?_) #[true, true, true, true, true, false, false, false, false, false, false, false, false, false, false, false, false, false, false, false] rfl rfl (any_of HT_.out (by kernel_rfl)) (fun _ _ _ h => h) (Or.inl ⟨by rfl, ?_⟩) ?_ ?_
                rotate_left
                · intro w'
                  go_simp
                  with_reducible rfl
                rotate_left
                · simp only [Act.put, List.setIfInBounds_toArray, List.set_cons_zero, List.set_cons_succ, i64_w, i32_w]
                  rfl
                refine take_ (i := 6) (N := some 39) (v := ?_) (a' := ?_) #[true, true, true, true, true, false, true, false, false, false, false, false, false, false, false, false, false, false, false, false] rfl rfl (take_ofW HT_.out HW_.out (by kernel_rfl)) (fun _ _ _ h => h) (Or.inl ⟨by rfl, ?_⟩) hHeld ?_ ?_
                rotate_left
                · rintro w' ⟨s0, s1, s2, s3⟩
                  go_simp
                  with_reducible rfl
                rotate_left
                · simp only [Act.put, List.setIfInBounds_toArray, List.set_cons_zero, List.set_cons_succ, i64_w, i32_w]
                  rfl
                refine one_ (i := 5) (N := some 38) #[true, true, true, true, true, true, true, false, false, false, false, false, false, false, false, false, false, false, false, false] rfl rfl (one_of HT_.out (by kernel_rfl)) (by decide) (fun K hK => ?_)
                refine goes_ Try.func12 (by kernel_rfl) rfl #[.slice Ao93 y164.length co93] (by rfl) rfl rfl (by (try simp only [List.map_toArray, List.map_cons, List.map_nil]); first | done | rfl | (simp only [List.length_drop, List.length_take]; rfl)) ?_
                with_reducible refine (vote_Most.calls k _ _ y164 t179 t180 _ ?side1 ?side2 A64.out).mono ?_
                (case side1 => repeat (first | exact (Kd.R_reads' HO166.out).2.2 | (with_reducible refine Kd.C_alloc ?_ _) | (with_reducible refine Kd.C_drewN ?_ _) | (with_reducible refine Kd.C_drew ?_)))
                (case side2 => exact (Kd.R_reads' HO166.out).2.1)
                rintro e w94 ⟨rfl, hb⟩
                refine ⟨_, rfl, ?_⟩
                have n0_ := Aside0.mk (Kd.R_below (by (with_reducible repeat (first | apply Kd.R_alloc | apply Kd.R_drewN | apply Kd.R_drew)); exact HO152.out) hb)
                have n1_ := Aside0.mk (Kd.R_below (by (with_reducible repeat (first | apply Kd.R_alloc | apply Kd.R_drewN | apply Kd.R_drew)); exact HO154.out) hb)
                have n2_ := Aside0.mk (Kd.R_below (by (with_reducible repeat (first | apply Kd.R_alloc | apply Kd.R_drewN | apply Kd.R_drew)); exact HO163.out) hb)
                have n3_ := Aside0.mk (Kd.R_below (by (with_reducible repeat (first | apply Kd.R_alloc | apply Kd.R_drewN | apply Kd.R_drew)); exact HO166.out) hb)
                have n4_ := Aside0.mk (Kd.R_below (by (with_reducible repeat (first | apply Kd.R_alloc | apply Kd.R_drewN | apply Kd.R_drew)); exact HO172.out) hb)
                have n5_ := Aside0.mk (Kd.R_below (by (with_reducible repeat (first | apply Kd.R_alloc | apply Kd.R_drewN | apply Kd.R_drew)); exact HO175.out) hb)
                have n6_ := Aside0.mk (blk_below (g := gb157) (o := .cells #[.int .i64 t155, .int .i64 t156] 29 (0, 0)) (by (with_reducible repeat (first | refine blk_drewN ?_ _ | refine blk_drew ?_ | refine blk_alloc ?_ _)); exact BK157.out) hb)
                have n7_ := Aside0.mk (blk_below (g := gb178) (o := .cells #[.int .i64 t176, .int .i64 t177] 29 (0, 0)) (by (with_reducible repeat (first | refine blk_drewN ?_ _ | refine blk_drew ?_ | refine blk_alloc ?_ _)); exact BK178.out) hb)
                have n8_ := Aside0.mk (below_step (by repeat (first | (with_reducible first | exact HB.out | apply below_alloc | apply pw_below_drewN | apply below_drew1 | refine below_set ?_ GE157.out | refine below_set ?_ GE178.out) | exact HB.out)) hb)
                clear HO152
                clear HO154
                clear HO163
                clear HO166
                clear HO172
                clear HO175
                clear BK157
                clear BK178
                clear HB
                have HO152 := n0_
                have HO154 := n1_
                have HO163 := n2_
                have HO166 := n3_
                have HO172 := n4_
                have HO175 := n5_
                have BK157 := n6_
                have BK178 := n7_
                have HB := n8_
                clear n0_ n1_ n2_ n3_ n4_ n5_ n6_ n7_ n8_
                (try clear hb)
                (try clear hb2)
                (try clear hk)
                (try clear hi)
                refine hK.out _ _ ⟨(blk_cell BK157.out 0).trans rfl, (blk_cell BK157.out 1).trans rfl, (blk_cell BK178.out 0).trans rfl, (blk_cell BK178.out 1).trans rfl⟩ (fun hHeld => ?_)
                clear hK K
                refine norm_ (a' := ?_) ?_ ?_
                rotate_left
                · show Act.put _ (some 38) _ = _
                  simp only [Act.put, List.setIfInBounds_toArray, List.set_cons_zero, List.set_cons_succ, i64_w, i32_w]
                  rfl
                refine pure_ (i := 7) (N := some 40) (v := ?_) (a' := ?_) #[true, true, true, true, true, true, true, true, false, false, false, false, false, false, false, false, false, false, false, false] rfl rfl (any_of HT_.out (by kernel_rfl)) (fun _ _ _ h => h) (Or.inl ⟨by rfl, ?_⟩) ?_ ?_
                rotate_left
                · intro w'
                  go_simp
                  with_reducible rfl
                rotate_left
                · simp only [Act.put, List.setIfInBounds_toArray, List.set_cons_zero, List.set_cons_succ, i64_w, i32_w]
                  rfl
                refine pure_ (i := 8) (N := some 41) (v := ?_) (a' := ?_) #[true, true, true, true, true, true, true, true, true, false, false, false, false, false, false, false, false, false, false, false] rfl rfl (any_of HT_.out (by kernel_rfl)) (fun _ _ _ h => h) (Or.inl ⟨by rfl, ?_⟩) ?_ ?_
                rotate_left
                · intro w'
                  go_simp
                  with_reducible rfl
                rotate_left
                · simp only [Act.put, List.setIfInBounds_toArray, List.set_cons_zero, List.set_cons_succ, i64_w, i32_w]
                  rfl
                refine pure_ (i := 9) (N := some 42) (v := ?_) (a' := ?_) #[true, true, true, true, true, true, true, true, true, true, false, false, false, false, false, false, false, false, false, false] rfl rfl (any_of HT_.out (by kernel_rfl)) (fun _ _ _ h => h) (Or.inl ⟨by rfl, ?_⟩) ?_ ?_
                rotate_left
                · intro w'
                  go_simp
                  with_reducible rfl
                rotate_left
                · simp only [Act.put, List.setIfInBounds_toArray, List.set_cons_zero, List.set_cons_succ, i64_w, i32_w]
                  rfl
                refine take_ (i := 10) (N := some 43) (v := ?_) (a' := ?_) #[true, true, true, true, true, true, true, true, true, true, true, false, false, false, false, false, false, false, false, false] rfl rfl (take_ofW HT_.out HW_.out (by kernel_rfl)) (fun _ _ _ h => h) (Or.inl ⟨by rfl, ?_⟩) hHeld ?_ ?_
                rotate_left
                · rintro w' ⟨s0, s1, s2, s3⟩
                  go_simp
                  with_reducible rfl
                rotate_left
                · simp only [Act.put, List.setIfInBounds_toArray, List.set_cons_zero, List.set_cons_succ, i64_w, i32_w]
                  rfl
                refine take_ (i := 11) (N := some 44) (v := ?_) (a' := ?_) #[true, true, true, true, true, true, true, true, true, true, true, true, false, false, false, false, false, false, false, false] rfl rfl (take_ofW HT_.out HW_.out (by kernel_rfl)) (fun _ _ _ h => h) (Or.inl ⟨by rfl, ?_⟩) hHeld ?_ ?_
                rotate_left
                · rintro w' ⟨s0, s1, s2, s3⟩
                  go_simp
                  with_reducible rfl
                rotate_left
                · simp only [Act.put, List.setIfInBounds_toArray, List.set_cons_zero, List.set_cons_succ, i64_w, i32_w]
                  rfl
                refine pure_ (i := 12) (N := some 45) (v := ?_) (a' := ?_) #[true, true, true, true, true, true, true, true, true, true, true, true, true, false, false, false, false, false, false, false] rfl rfl (any_of HT_.out (by kernel_rfl)) (fun _ _ _ h => h) (Or.inl ⟨by rfl, ?_⟩) ?_ ?_
                rotate_left
                · intro w'
                  go_simp
                  with_reducible rfl
                rotate_left
                · simp only [Act.put, List.setIfInBounds_toArray, List.set_cons_zero, List.set_cons_succ, i64_w, i32_w]
                  rfl
                refine pure_ (i := 13) (N := some 46) (v := ?_) (a' := ?_) #[true, true, true, true, true, true, true, true, true, true, true, true, true, true, false, false, false, false, false, false] rfl rfl (any_of HT_.out (by kernel_rfl)) (fun _ _ _ h => h) (Or.inl ⟨by rfl, ?_⟩) ?_ ?_
                rotate_left
                · intro w'
                  go_simp
                  with_reducible rfl
                rotate_left
                · simp only [Act.put, List.setIfInBounds_toArray, List.set_cons_zero, List.set_cons_succ, i64_w, i32_w]
                  rfl
                refine pure_ (i := 14) (N := some 47) (v := undef) (a' := ?_) #[true, true, true, true, true, true, true, true, true, true, true, true, true, true, true, false, false, false, false, false] rfl rfl (any_of HT_.out (by kernel_rfl)) (fun _ _ _ h => h) (Or.inr ⟨by rfl, rfl⟩) ?_ ?_
                rotate_left
                · simp only [Act.put, List.setIfInBounds_toArray, List.set_cons_zero, List.set_cons_succ, i64_w, i32_w]
                  rfl
                refine pure_ (i := 15) (N := some 48) (v := undef) (a' := ?_) #[true, true, true, true, true, true, true, true, true, true, true, true, true, true, true, true, false, false, false, false] rfl rfl (any_of HT_.out (by kernel_rfl)) (fun _ _ _ h => h) (Or.inr ⟨by rfl, rfl⟩) ?_ ?_
                rotate_left
                · simp only [Act.put, List.setIfInBounds_toArray, List.set_cons_zero, List.set_cons_succ, i64_w, i32_w]
                  rfl
                refine pure_ (i := 16) (N := some 49) (v := undef) (a' := ?_) #[true, true, true, true, true, true, true, true, true, true, true, true, true, true, true, true, true, false, false, false] rfl rfl (any_of HT_.out (by kernel_rfl)) (fun _ _ _ h => h) (Or.inr ⟨by rfl, rfl⟩) ?_ ?_
                rotate_left
                · simp only [Act.put, List.setIfInBounds_toArray, List.set_cons_zero, List.set_cons_succ, i64_w, i32_w]
                  rfl
                refine pure_ (i := 17) (N := some 50) (v := ?_) (a' := ?_) #[true, true, true, true, true, true, true, true, true, true, true, true, true, true, true, true, true, true, false, false] rfl rfl (any_of HT_.out (by kernel_rfl)) (fun _ _ _ h => h) (Or.inl ⟨by rfl, ?_⟩) ?_ ?_
                rotate_left
                · intro w'
                  go_simp
                  with_reducible rfl
                rotate_left
                · simp only [Act.put, List.setIfInBounds_toArray, List.set_cons_zero, List.set_cons_succ, i64_w, i32_w]
                  rfl
                refine pure_ (i := 18) (N := some 51) (v := ?_) (a' := ?_) #[true, true, true, true, true, true, true, true, true, true, true, true, true, true, true, true, true, true, true, false] rfl rfl (any_of HT_.out (by kernel_rfl)) (fun _ _ _ h => h) (Or.inl ⟨by rfl, ?_⟩) ?_ ?_
                rotate_left
                · intro w'
                  go_simp
                  with_reducible rfl
                rotate_left
                · simp only [Act.put, List.setIfInBounds_toArray, List.set_cons_zero, List.set_cons_succ, i64_w, i32_w]
                  rfl
                refine pure_ (i := 19) (N := some 2) (v := ?_) (a' := ?_) #[true, true, true, true, true, true, true, true, true, true, true, true, true, true, true, true, true, true, true, true] rfl rfl (any_of HT_.out (by kernel_rfl)) (fun _ _ _ h => h) (Or.inl ⟨by rfl, ?_⟩) ?_ ?_
                rotate_left
                · intro w'
                  go_simp
                  with_reducible rfl
                rotate_left
                · simp only [Act.put, List.setIfInBounds_toArray, List.set_cons_zero, List.set_cons_succ, i64_w, i32_w]
                  rfl
                refine done_ (done_of HT_.out (by kernel_rfl)) ?_
                try go_wp2
                go_ret
                exact ⟨by first | rfl | (simp [errW_none, errW_some] <;> rfl) | (simp [*, errW_none, errW_some] <;> rfl), by repeat (first | (with_reducible first | exact HB.out | apply below_alloc | apply pw_below_drewN | apply below_drew1 | refine below_set ?_ GE157.out | refine below_set ?_ GE178.out) | exact HB.out)⟩
              · rw [if_neg c66] at H
                have c66b0 : (t176 == t155 && (t177 == t156)) = false := by simpa using c66
                (try (have c66b1 : decide (t176 = t155 && (t177 == t156)) = false := by simpa using c66))
                (try (have c66b2 : (t176 == t155 && (t177 == t156)) = false := by simpa using c66))
                (try (have c66b3 : ¬ (t176 = t155 && (t177 == t156)) := by simpa using c66))
                clear c66
                obtain rfl := Option.some.inj H
                obtain ⟨Ao114, co114, eo114⟩ := Kd.R_slice HO175.out
                subst eo114
                try go_wp2_with (first | ((with_reducible refine gate_callee (f := 12) rfl ?_); refine goesL_ (some 32) rfl rfl Try.func12 (by kernel_rfl) rfl #[.slice Ao114 y173.length co114] rfl (by (try simp only [List.map_toArray, List.map_cons, List.map_nil]); first | done | rfl | (simp only [List.length_drop, List.length_take]; rfl)) ?_; (with_reducible refine (vote_Most.calls k _ _ y173 t176 t177 _ ?side1 ?side2 A9.out).mono ?_); (case side1 => repeat (first | exact (Kd.R_reads' HO175.out).2.2 | (with_reducible refine Kd.C_alloc ?_ _) | (with_reducible refine Kd.C_drewN ?_ _) | (with_reducible refine Kd.C_drew ?_))); (case side2 => exact (Kd.R_reads' HO175.out).2.1); rintro e w115 ⟨rfl, hb⟩; refine ⟨_, rfl, ?_⟩; have n0_ := Aside0.mk (Kd.R_below (by (with_reducible repeat (first | apply Kd.R_alloc | apply Kd.R_drewN | apply Kd.R_drew)); exact HO152.out) hb); have n1_ := Aside0.mk (Kd.R_below (by (with_reducible repeat (first | apply Kd.R_alloc | apply Kd.R_drewN | apply Kd.R_drew)); exact HO154.out) hb); have n2_ := Aside0.mk (Kd.R_below (by (with_reducible repeat (first | apply Kd.R_alloc | apply Kd.R_drewN | apply Kd.R_drew)); exact HO163.out) hb); have n3_ := Aside0.mk (Kd.R_below (by (with_reducible repeat (first | apply Kd.R_alloc | apply Kd.R_drewN | apply Kd.R_drew)); exact HO166.out) hb); have n4_ := Aside0.mk (Kd.R_below (by (with_reducible repeat (first | apply Kd.R_alloc | apply Kd.R_drewN | apply Kd.R_drew)); exact HO172.out) hb); have n5_ := Aside0.mk (Kd.R_below (by (with_reducible repeat (first | apply Kd.R_alloc | apply Kd.R_drewN | apply Kd.R_drew)); exact HO175.out) hb); have n6_ := Aside0.mk (blk_below (g := gb157) (o := .cells #[.int .i64 t155, .int .i64 t156] 29 (0, 0)) (by (with_reducible repeat (first | refine blk_drewN ?_ _ | refine blk_drew ?_ | refine blk_alloc ?_ _)); exact BK157.out) hb); have n7_ := Aside0.mk (below_step (by repeat (first | (with_reducible first | exact HB.out | apply below_alloc | apply pw_below_drewN | apply below_drew1 | refine below_set ?_ GE157.out) | exact HB.out)) hb); clear HO152; clear HO154; clear HO163; clear HO166; clear HO172; clear HO175; clear BK157; clear HB; have HO152 := n0_; have HO154 := n1_; have HO163 := n2_; have HO166 := n3_; have HO172 := n4_; have HO175 := n5_; have BK157 := n6_; have HB := n7_; clear n0_ n1_ n2_ n3_ n4_ n5_ n6_ n7_; (try clear hb); (try clear hb2); (try clear hk); (try clear hi)) | ((with_reducible refine gate_dst (N := 8) rfl ?_); refine box_event ?hg (N := 8) ?hd (cs := #[.int .i64 0, .int .i64 0]) (t := 29) ?hr ?_; (case hd => rfl); (case hg => rfl); (case hr => first | (go_simp; done) | (go_simp; rfl)); intro gb178 hg w116 hbox hb; have n0_ := Aside0.mk (Kd.R_below (by (with_reducible repeat (first | apply Kd.R_alloc | apply Kd.R_drewN | apply Kd.R_drew)); exact HO152.out) hb); have n1_ := Aside0.mk (Kd.R_below (by (with_reducible repeat (first | apply Kd.R_alloc | apply Kd.R_drewN | apply Kd.R_drew)); exact HO154.out) hb); have n2_ := Aside0.mk (Kd.R_below (by (with_reducible repeat (first | apply Kd.R_alloc | apply Kd.R_drewN | apply Kd.R_drew)); exact HO163.out) hb); have n3_ := Aside0.mk (Kd.R_below (by (with_reducible repeat (first | apply Kd.R_alloc | apply Kd.R_drewN | apply Kd.R_drew)); exact HO166.out) hb); have n4_ := Aside0.mk (Kd.R_below (by (with_reducible repeat (first | apply Kd.R_alloc | apply Kd.R_drewN | apply Kd.R_drew)); exact HO172.out) hb); have n5_ := Aside0.mk (Kd.R_below (by (with_reducible repeat (first | apply Kd.R_alloc | apply Kd.R_drewN | apply Kd.R_drew)); exact HO175.out) hb); have n6_ := Aside0.mk (blk_below (g := gb157) (o := .cells #[.int .i64 t155, .int .i64 t156] 29 (0, 0)) (by (with_reducible repeat (first | refine blk_drewN ?_ _ | refine blk_drew ?_ | refine blk_alloc ?_ _)); exact BK157.out) hb); have n7_ := Aside0.mk (below_step (by repeat (first | (with_reducible first | exact HB.out | apply below_alloc | apply pw_below_drewN | apply below_drew1 | refine below_set ?_ GE157.out) | exact HB.out)) hb); have n8_ := Aside0.mk (hbox); have n9_ := Aside0.mk ((by rw [hg]; exact (below_size (by repeat (first | (with_reducible first | exact HB.out | apply below_alloc | apply pw_below_drewN | apply below_drew1 | refine below_set ?_ GE157.out) | exact HB.out))) : w.heap.size ≤ gb178)); have n10_ := Aside0.mk ((by rw [hg]; exact (below_size (by repeat (first | (with_reducible first | exact HB.out | apply below_alloc | apply pw_below_drewN | apply below_drew1 | refine below_set ?_ GE157.out) | exact HB.out))) : w.heap.size ≤ gb178)); have n11_ := Aside0.mk ((by rw [hg]; exact Nat.ne_of_lt (blk_lt (g := gb157) (o := .cells #[.int .i64 t155, .int .i64 t156] 29 (0, 0)) (by (with_reducible repeat (first | refine blk_drewN ?_ _ | refine blk_drew ?_ | refine blk_alloc ?_ _)); exact BK157.out)) : gb157 ≠ gb178)); have n12_ := Aside0.mk ((by rw [hg]; exact Nat.ne_of_gt (blk_lt (g := gb157) (o := .cells #[.int .i64 t155, .int .i64 t156] 29 (0, 0)) (by (with_reducible repeat (first | refine blk_drewN ?_ _ | refine blk_drew ?_ | refine blk_alloc ?_ _)); exact BK157.out)) : gb178 ≠ gb157)); clear HO152; clear HO154; clear HO163; clear HO166; clear HO172; clear HO175; clear BK157; clear HB; have HO152 := n0_; have HO154 := n1_; have HO163 := n2_; have HO166 := n3_; have HO172 := n4_; have HO175 := n5_; have BK157 := n6_; have HB := n7_; have BK178 := n8_; have GW178 := n9_; have GE178 := n10_; have NB157_178 := n11_; have NB178_157 := n12_; clear n0_ n1_ n2_ n3_ n4_ n5_ n6_ n7_ n8_ n9_ n10_ n11_ n12_; clear hb hbox hg; have hnb117 := NB178_157.out; have hnc117 := NB157_178.out; have hcz118_0 : w116.cell? ⟨gb178, 0, none⟩ = some (.int .i64 0) := (blk_cell BK178.out 0).trans rfl; have hcz118_1 : w116.cell? ⟨gb178, 1, none⟩ = some (.int .i64 0) := (blk_cell BK178.out 1).trans rfl; have hfz118_0 := blk_frozen BK178.out 0; have hfz118_1 := blk_frozen BK178.out 1))
                have n0_ : Aside0 (Kd.R k31 31 ((w116.setCell ⟨gb178, 0, none⟩ (.int .i64 t176)).setCell ⟨gb178, 1, none⟩ (.int .i64 t177)) w.heap.size (fun k_ => some k_ ≠ (v162 : Value).ownBlock ∧ some k_ ≠ (v165 : Value).ownBlock ∧ some k_ ≠ (.slice Ao30 y170.length co30 : Value).ownBlock ∧ some k_ ≠ (.slice Ao114 y173.length co114 : Value).ownBlock) (.slice Ao14 t149.length co14) t149) := ⟨by (with_reducible repeat (first | apply Kd.R_alloc | apply Kd.R_drewN | apply Kd.R_drew)); exact Kd.R_mono (Kd.R_far (p := ⟨gb178, 1, none⟩) (Kd.R_far (p := ⟨gb178, 0, none⟩) (Kd.R_types HO152.out BK178.out (by decide)) (fun _ hk => hk.2) (.int .i64 t176)) (fun _ hk => hk.2) (.int .i64 t177)) (fun _ hk => ⟨hk.1.1.1, ⟨hk.1.1.2.1, ⟨hk.1.1.2.2, hk.1.2⟩⟩⟩)⟩
                have n1_ : Aside0 (Kd.R k44 44 ((w116.setCell ⟨gb178, 0, none⟩ (.int .i64 t176)).setCell ⟨gb178, 1, none⟩ (.int .i64 t177)) w.heap.size (fun _ => True) v153 t150) := ⟨by (with_reducible repeat (first | apply Kd.R_alloc | apply Kd.R_drewN | apply Kd.R_drew)); exact Kd.R_mono (Kd.R_far (p := ⟨gb178, 1, none⟩) (Kd.R_far (p := ⟨gb178, 0, none⟩) (Kd.R_types HO154.out BK178.out (by decide)) (fun _ hk => hk.2) (.int .i64 t176)) (fun _ hk => hk.2) (.int .i64 t177)) (fun _ hk => trivial)⟩
                have n2_ : Aside0 (Kd.R k31 31 ((w116.setCell ⟨gb178, 0, none⟩ (.int .i64 t176)).setCell ⟨gb178, 1, none⟩ (.int .i64 t177)) w.heap.size (fun k_ => some k_ ≠ (.slice Ao14 t149.length co14 : Value).ownBlock ∧ some k_ ≠ (v165 : Value).ownBlock ∧ some k_ ≠ (.slice Ao30 y170.length co30 : Value).ownBlock ∧ some k_ ≠ (.slice Ao114 y173.length co114 : Value).ownBlock) v162 y161) := ⟨by (with_reducible repeat (first | apply Kd.R_alloc | apply Kd.R_drewN | apply Kd.R_drew)); exact Kd.R_mono (Kd.R_far (p := ⟨gb178, 1, none⟩) (Kd.R_far (p := ⟨gb178, 0, none⟩) (Kd.R_types HO163.out BK178.out (by decide)) (fun _ hk => hk.2) (.int .i64 t176)) (fun _ hk => hk.2) (.int .i64 t177)) (fun _ hk => ⟨hk.1.1.1, ⟨hk.1.1.2.1, ⟨hk.1.1.2.2, hk.1.2⟩⟩⟩)⟩
                have n3_ : Aside0 (Kd.R k31 31 ((w116.setCell ⟨gb178, 0, none⟩ (.int .i64 t176)).setCell ⟨gb178, 1, none⟩ (.int .i64 t177)) w.heap.size (fun k_ => some k_ ≠ (.slice Ao14 t149.length co14 : Value).ownBlock ∧ some k_ ≠ (v162 : Value).ownBlock ∧ some k_ ≠ (.slice Ao30 y170.length co30 : Value).ownBlock ∧ some k_ ≠ (.slice Ao114 y173.length co114 : Value).ownBlock) v165 y164) := ⟨by (with_reducible repeat (first | apply Kd.R_alloc | apply Kd.R_drewN | apply Kd.R_drew)); exact Kd.R_mono (Kd.R_far (p := ⟨gb178, 1, none⟩) (Kd.R_far (p := ⟨gb178, 0, none⟩) (Kd.R_types HO166.out BK178.out (by decide)) (fun _ hk => hk.2) (.int .i64 t176)) (fun _ hk => hk.2) (.int .i64 t177)) (fun _ hk => ⟨hk.1.1.1, ⟨hk.1.1.2.1, ⟨hk.1.1.2.2, hk.1.2⟩⟩⟩)⟩
                have n4_ : Aside0 (Kd.R k31 31 ((w116.setCell ⟨gb178, 0, none⟩ (.int .i64 t176)).setCell ⟨gb178, 1, none⟩ (.int .i64 t177)) w.heap.size (fun k_ => some k_ ≠ (.slice Ao14 t149.length co14 : Value).ownBlock ∧ some k_ ≠ (v162 : Value).ownBlock ∧ some k_ ≠ (v165 : Value).ownBlock ∧ some k_ ≠ (.slice Ao114 y173.length co114 : Value).ownBlock) (.slice Ao30 y170.length co30) y170) := ⟨by (with_reducible repeat (first | apply Kd.R_alloc | apply Kd.R_drewN | apply Kd.R_drew)); exact Kd.R_mono (Kd.R_far (p := ⟨gb178, 1, none⟩) (Kd.R_far (p := ⟨gb178, 0, none⟩) (Kd.R_types HO172.out BK178.out (by decide)) (fun _ hk => hk.2) (.int .i64 t176)) (fun _ hk => hk.2) (.int .i64 t177)) (fun _ hk => ⟨hk.1.1.1, ⟨hk.1.1.2.1, ⟨hk.1.1.2.2, hk.1.2⟩⟩⟩)⟩
                have n5_ : Aside0 (Kd.R k31 31 ((w116.setCell ⟨gb178, 0, none⟩ (.int .i64 t176)).setCell ⟨gb178, 1, none⟩ (.int .i64 t177)) w.heap.size (fun k_ => some k_ ≠ (.slice Ao14 t149.length co14 : Value).ownBlock ∧ some k_ ≠ (v162 : Value).ownBlock ∧ some k_ ≠ (v165 : Value).ownBlock ∧ some k_ ≠ (.slice Ao30 y170.length co30 : Value).ownBlock) (.slice Ao114 y173.length co114) y173) := ⟨by (with_reducible repeat (first | apply Kd.R_alloc | apply Kd.R_drewN | apply Kd.R_drew)); exact Kd.R_mono (Kd.R_far (p := ⟨gb178, 1, none⟩) (Kd.R_far (p := ⟨gb178, 0, none⟩) (Kd.R_types HO175.out BK178.out (by decide)) (fun _ hk => hk.2) (.int .i64 t176)) (fun _ hk => hk.2) (.int .i64 t177)) (fun _ hk => ⟨hk.1.1, ⟨hk.1.2.1, ⟨hk.1.2.2.1, hk.1.2.2.2⟩⟩⟩)⟩
                have n6_ : Aside0 (((w116.setCell ⟨gb178, 0, none⟩ (.int .i64 t176)).setCell ⟨gb178, 1, none⟩ (.int .i64 t177)).heap[gb157]? = some (.cells #[.int .i64 t155, .int .i64 t156] 29 (0, 0))) := ⟨by (with_reducible repeat (first | refine blk_drewN ?_ _ | refine blk_drew ?_ | refine blk_alloc ?_ _)); refine blk_far ?_ NB157_178.out _; (with_reducible repeat (first | refine blk_drewN ?_ _ | refine blk_drew ?_ | refine blk_alloc ?_ _)); refine blk_far ?_ NB157_178.out _; (with_reducible repeat (first | refine blk_drewN ?_ _ | refine blk_drew ?_ | refine blk_alloc ?_ _)); exact BK157.out⟩
                have n7_ : Aside0 (((w116.setCell ⟨gb178, 0, none⟩ (.int .i64 t176)).setCell ⟨gb178, 1, none⟩ (.int .i64 t177)).heap[gb178]? = some (.cells #[.int .i64 t176, .int .i64 t177] 29 (0, 0))) := ⟨by (with_reducible repeat (first | refine blk_drewN ?_ _ | refine blk_drew ?_ | refine blk_alloc ?_ _)); refine blk_put (cs := #[.int .i64 t176, .int .i64 0]) ?_ 1 _ rfl; (with_reducible repeat (first | refine blk_drewN ?_ _ | refine blk_drew ?_ | refine blk_alloc ?_ _)); refine blk_put (cs := #[.int .i64 0, .int .i64 0]) ?_ 0 _ rfl; (with_reducible repeat (first | refine blk_drewN ?_ _ | refine blk_drew ?_ | refine blk_alloc ?_ _)); exact BK178.out⟩
                have n8_ : Aside0 (Below w.heap.size w ((w116.setCell ⟨gb178, 0, none⟩ (.int .i64 t176)).setCell ⟨gb178, 1, none⟩ (.int .i64 t177))) := ⟨by repeat (first | (with_reducible first | exact HB.out | apply below_alloc | apply pw_below_drewN | apply below_drew1 | refine below_set ?_ GE157.out | refine below_set ?_ GE178.out) | exact HB.out)⟩
                (try clear HO152)
                (try clear HO154)
                (try clear HO163)
                (try clear HO166)
                (try clear HO172)
                (try clear HO175)
                (try clear BK157)
                (try clear BK178)
                (try clear HB)
                generalize ((w116.setCell ⟨gb178, 0, none⟩ (.int .i64 t176)).setCell ⟨gb178, 1, none⟩ (.int .i64 t177)) = w119 at n0_ n1_ n2_ n3_ n4_ n5_ n6_ n7_ n8_ ⊢
                have HO152 := n0_
                have HO154 := n1_
                have HO163 := n2_
                have HO166 := n3_
                have HO172 := n4_
                have HO175 := n5_
                have BK157 := n6_
                have BK178 := n7_
                have HB := n8_
                clear n0_ n1_ n2_ n3_ n4_ n5_ n6_ n7_ n8_
                have n0_ := Aside0.mk (Kd.R_drew HO152.out)
                have n1_ := Aside0.mk (Kd.R_drew HO154.out)
                have n2_ := Aside0.mk (Kd.R_drew HO163.out)
                have n3_ := Aside0.mk (Kd.R_drew HO166.out)
                have n4_ := Aside0.mk (Kd.R_drew HO172.out)
                have n5_ := Aside0.mk (Kd.R_drew HO175.out)
                have n6_ := Aside0.mk (blk_drew BK157.out)
                have n7_ := Aside0.mk (blk_drew BK178.out)
                have n8_ := Aside0.mk (below_drew1 HB.out)
                clear HO152
                clear HO154
                clear HO163
                clear HO166
                clear HO172
                clear HO175
                clear BK157
                clear BK178
                clear HB
                have HO152 := n0_
                have HO154 := n1_
                have HO163 := n2_
                have HO166 := n3_
                have HO172 := n4_
                have HO175 := n5_
                have BK157 := n6_
                have BK178 := n7_
                have HB := n8_
                clear n0_ n1_ n2_ n3_ n4_ n5_ n6_ n7_ n8_
                obtain ⟨Ao121, co121, eo121⟩ := Kd.R_slice HO166.out
                (first | subst eo121 | (injection eo121 with f1_ f2_ f3_; have f4_ := f1_.symm; have f5_ := f3_.symm; clear f1_ f2_ f3_; subst f4_; subst f5_))
                refine start_ (n := 20) (S := fun w' => w'.cell? ⟨gb157, 0, none⟩ = some (.int .i64 t155) ∧ w'.cell? ⟨gb157, 1, none⟩ = some (.int .i64 t156) ∧ w'.cell? ⟨gb178, 0, none⟩ = some (.int .i64 t176) ∧ w'.cell? ⟨gb178, 1, none⟩ = some (.int .i64 t177)) (ds := []) #[false, false, false, false, false, false, false, false, false, false, false, false, false, false, false, false, false, false, false, false] (by kernel_rfl) rfl rfl ⟨(blk_cell BK157.out 0).trans rfl, (blk_cell BK157.out 1).trans rfl, (blk_cell BK178.out 0).trans rfl, (blk_cell BK178.out 1).trans rfl⟩ (fun hHeld => ?_); refine with_tabW plaitinglaw15_VoteGrows.tab8 plaitinglaw15_VoteGrows.bits8 (fun HT_ HW_ => ?_)
                generalize w119.drew = w120 at HO152 HO154 HO163 HO166 HO172 HO175 BK157 BK178 HB hHeld ⊢
                refine pure_ (i := 1) (N := some 34) (v := ?_) (a' := ?_) #[false, true, false, false, false, false, false, false, false, false, false, false, false, false, false, false, false, false, false, false] rfl rfl (any_of HT_.out (by kernel_rfl)) (fun _ _ _ h => h) (Or.inl ⟨by rfl, ?_⟩) ?_ ?_
                rotate_left
                · intro w'
                  go_simp
                  with_reducible rfl
                rotate_left
                · simp only [Act.put, List.setIfInBounds_toArray, List.set_cons_zero, List.set_cons_succ, i64_w, i32_w]
                  rfl
                refine take_ (i := 0) (N := some 33) (v := ?_) (a' := ?_) #[true, true, false, false, false, false, false, false, false, false, false, false, false, false, false, false, false, false, false, false] rfl rfl (take_ofW HT_.out HW_.out (by kernel_rfl)) (fun _ _ _ h => h) (Or.inl ⟨by rfl, ?_⟩) hHeld ?_ ?_
                rotate_left
                · rintro w' ⟨s0, s1, s2, s3⟩
                  go_simp
                  with_reducible rfl
                rotate_left
                · simp only [Act.put, List.setIfInBounds_toArray, List.set_cons_zero, List.set_cons_succ, i64_w, i32_w]
                  rfl
                refine pure_ (i := 2) (N := some 35) (v := ?_) (a' := ?_) #[true, true, true, false, false, false, false, false, false, false, false, false, false, false, false, false, false, false, false, false] rfl rfl (any_of HT_.out (by kernel_rfl)) (fun _ _ _ h => h) (Or.inl ⟨by rfl, ?_⟩) ?_ ?_
                rotate_left
                · intro w'
                  go_simp
                  with_reducible rfl
                rotate_left
                · simp only [Act.put, List.setIfInBounds_toArray, List.set_cons_zero, List.set_cons_succ, i64_w, i32_w]
                  rfl
                refine pure_ (i := 3) (N := some 36) (v := ?_) (a' := ?_) #[true, true, true, true, false, false, false, false, false, false, false, false, false, false, false, false, false, false, false, false] rfl rfl (any_of HT_.out (by kernel_rfl)) (fun _ _ _ h => h) (Or.inl ⟨by rfl, ?_⟩) ?_ ?_
                rotate_left
                · intro w'
                  go_simp
                  with_reducible rfl
                rotate_left
                · simp only [Act.put, List.setIfInBounds_toArray, List.set_cons_zero, List.set_cons_succ, i64_w, i32_w]
                  rfl
                refine pure_ (i := 4) (N := some 37) (v := ?_) (a' := ?_) #[true, true, true, true, true, false, false, false, false, false, false, false, false, false, false, false, false, false, false, false] rfl rfl (any_of HT_.out (by kernel_rfl)) (fun _ _ _ h => h) (Or.inl ⟨by rfl, ?_⟩) ?_ ?_
                rotate_left
                · intro w'
                  go_simp
                  with_reducible rfl
                rotate_left
                · simp only [Act.put, List.setIfInBounds_toArray, List.set_cons_zero, List.set_cons_succ, i64_w, i32_w]
                  rfl
                refine take_ (i := 6) (N := some 39) (v := ?_) (a' := ?_) #[true, true, true, true, true, false, true, false, false, false, false, false, false, false, false, false, false, false, false, false] rfl rfl (take_ofW HT_.out HW_.out (by kernel_rfl)) (fun _ _ _ h => h) (Or.inl ⟨by rfl, ?_⟩) hHeld ?_ ?_
                rotate_left
                · rintro w' ⟨s0, s1, s2, s3⟩
                  go_simp
                  with_reducible rfl
                rotate_left
                · simp only [Act.put, List.setIfInBounds_toArray, List.set_cons_zero, List.set_cons_succ, i64_w, i32_w]
                  rfl
                refine one_ (i := 5) (N := some 38) #[true, true, true, true, true, true, true, false, false, false, false, false, false, false, false, false, false, false, false, false] rfl rfl (one_of HT_.out (by kernel_rfl)) (by decide) (fun K hK => ?_)
                refine goes_ Try.func12 (by kernel_rfl) rfl #[.slice Ao121 y164.length co121] (by rfl) rfl rfl (by (try simp only [List.map_toArray, List.map_cons, List.map_nil]); first | done | rfl | (simp only [List.length_drop, List.length_take]; rfl)) ?_
                with_reducible refine (vote_Most.calls k _ _ y164 t179 t180 _ ?side1 ?side2 A64.out).mono ?_
                (case side1 => repeat (first | exact (Kd.R_reads' HO166.out).2.2 | (with_reducible refine Kd.C_alloc ?_ _) | (with_reducible refine Kd.C_drewN ?_ _) | (with_reducible refine Kd.C_drew ?_)))
                (case side2 => exact (Kd.R_reads' HO166.out).2.1)
                rintro e w122 ⟨rfl, hb⟩
                refine ⟨_, rfl, ?_⟩
                have n0_ := Aside0.mk (Kd.R_below (by (with_reducible repeat (first | apply Kd.R_alloc | apply Kd.R_drewN | apply Kd.R_drew)); exact HO152.out) hb)
                have n1_ := Aside0.mk (Kd.R_below (by (with_reducible repeat (first | apply Kd.R_alloc | apply Kd.R_drewN | apply Kd.R_drew)); exact HO154.out) hb)
                have n2_ := Aside0.mk (Kd.R_below (by (with_reducible repeat (first | apply Kd.R_alloc | apply Kd.R_drewN | apply Kd.R_drew)); exact HO163.out) hb)
                have n3_ := Aside0.mk (Kd.R_below (by (with_reducible repeat (first | apply Kd.R_alloc | apply Kd.R_drewN | apply Kd.R_drew)); exact HO166.out) hb)
                have n4_ := Aside0.mk (Kd.R_below (by (with_reducible repeat (first | apply Kd.R_alloc | apply Kd.R_drewN | apply Kd.R_drew)); exact HO172.out) hb)
                have n5_ := Aside0.mk (Kd.R_below (by (with_reducible repeat (first | apply Kd.R_alloc | apply Kd.R_drewN | apply Kd.R_drew)); exact HO175.out) hb)
                have n6_ := Aside0.mk (blk_below (g := gb157) (o := .cells #[.int .i64 t155, .int .i64 t156] 29 (0, 0)) (by (with_reducible repeat (first | refine blk_drewN ?_ _ | refine blk_drew ?_ | refine blk_alloc ?_ _)); exact BK157.out) hb)
                have n7_ := Aside0.mk (blk_below (g := gb178) (o := .cells #[.int .i64 t176, .int .i64 t177] 29 (0, 0)) (by (with_reducible repeat (first | refine blk_drewN ?_ _ | refine blk_drew ?_ | refine blk_alloc ?_ _)); exact BK178.out) hb)
                have n8_ := Aside0.mk (below_step (by repeat (first | (with_reducible first | exact HB.out | apply below_alloc | apply pw_below_drewN | apply below_drew1 | refine below_set ?_ GE157.out | refine below_set ?_ GE178.out) | exact HB.out)) hb)
                clear HO152
                clear HO154
                clear HO163
                clear HO166
                clear HO172
                clear HO175
                clear BK157
                clear BK178
                clear HB
                have HO152 := n0_
                have HO154 := n1_
                have HO163 := n2_
                have HO166 := n3_
                have HO172 := n4_
                have HO175 := n5_
                have BK157 := n6_
                have BK178 := n7_
                have HB := n8_
                clear n0_ n1_ n2_ n3_ n4_ n5_ n6_ n7_ n8_
                (try clear hb)
                (try clear hb2)
                (try clear hk)
                (try clear hi)
                refine hK.out _ _ ⟨(blk_cell BK157.out 0).trans rfl, (blk_cell BK157.out 1).trans rfl, (blk_cell BK178.out 0).trans rfl, (blk_cell BK178.out 1).trans rfl⟩ (fun hHeld => ?_)
                clear hK K
                refine norm_ (a' := ?_) ?_ ?_
                rotate_left
                · show Act.put _ (some 38) _ = _
                  simp only [Act.put, List.setIfInBounds_toArray, List.set_cons_zero, List.set_cons_succ, i64_w, i32_w]
                  rfl
                refine pure_ (i := 7) (N := some 40) (v := ?_) (a' := ?_) #[true, true, true, true, true, true, true, true, false, false, false, false, false, false, false, false, false, false, false, false] rfl rfl (any_of HT_.out (by kernel_rfl)) (fun _ _ _ h => h) (Or.inl ⟨by rfl, ?_⟩) ?_ ?_
                rotate_left
                · intro w'
                  go_simp
                  with_reducible rfl
                rotate_left
                · simp only [Act.put, List.setIfInBounds_toArray, List.set_cons_zero, List.set_cons_succ, i64_w, i32_w]
                  rfl
                refine pure_ (i := 8) (N := some 41) (v := ?_) (a' := ?_) #[true, true, true, true, true, true, true, true, true, false, false, false, false, false, false, false, false, false, false, false] rfl rfl (any_of HT_.out (by kernel_rfl)) (fun _ _ _ h => h) (Or.inl ⟨by rfl, ?_⟩) ?_ ?_
                rotate_left
                · intro w'
                  go_simp
                  with_reducible rfl
                rotate_left
                · simp only [Act.put, List.setIfInBounds_toArray, List.set_cons_zero, List.set_cons_succ, i64_w, i32_w]
                  rfl
                refine pure_ (i := 9) (N := some 42) (v := ?_) (a' := ?_) #[true, true, true, true, true, true, true, true, true, true, false, false, false, false, false, false, false, false, false, false] rfl rfl (any_of HT_.out (by kernel_rfl)) (fun _ _ _ h => h) (Or.inl ⟨by rfl, ?_⟩) ?_ ?_
                rotate_left
                · intro w'
                  go_simp
                  with_reducible rfl
                rotate_left
                · simp only [Act.put, List.setIfInBounds_toArray, List.set_cons_zero, List.set_cons_succ, i64_w, i32_w]
                  rfl
                refine take_ (i := 10) (N := some 43) (v := ?_) (a' := ?_) #[true, true, true, true, true, true, true, true, true, true, true, false, false, false, false, false, false, false, false, false] rfl rfl (take_ofW HT_.out HW_.out (by kernel_rfl)) (fun _ _ _ h => h) (Or.inl ⟨by rfl, ?_⟩) hHeld ?_ ?_
                rotate_left
                · rintro w' ⟨s0, s1, s2, s3⟩
                  go_simp
                  with_reducible rfl
                rotate_left
                · simp only [Act.put, List.setIfInBounds_toArray, List.set_cons_zero, List.set_cons_succ, i64_w, i32_w]
                  rfl
                refine take_ (i := 11) (N := some 44) (v := ?_) (a' := ?_) #[true, true, true, true, true, true, true, true, true, true, true, true, false, false, false, false, false, false, false, false] rfl rfl (take_ofW HT_.out HW_.out (by kernel_rfl)) (fun _ _ _ h => h) (Or.inl ⟨by rfl, ?_⟩) hHeld ?_ ?_
                rotate_left
                · rintro w' ⟨s0, s1, s2, s3⟩
                  go_simp
                  with_reducible rfl
                rotate_left
                · simp only [Act.put, List.setIfInBounds_toArray, List.set_cons_zero, List.set_cons_succ, i64_w, i32_w]
                  rfl
                refine pure_ (i := 12) (N := some 45) (v := ?_) (a' := ?_) #[true, true, true, true, true, true, true, true, true, true, true, true, true, false, false, false, false, false, false, false] rfl rfl (any_of HT_.out (by kernel_rfl)) (fun _ _ _ h => h) (Or.inl ⟨by rfl, ?_⟩) ?_ ?_
                rotate_left
                · intro w'
                  go_simp
                  with_reducible rfl
                rotate_left
                · simp only [Act.put, List.setIfInBounds_toArray, List.set_cons_zero, List.set_cons_succ, i64_w, i32_w]
                  rfl
                refine pure_ (i := 13) (N := some 46) (v := ?_) (a' := ?_) #[true, true, true, true, true, true, true, true, true, true, true, true, true, true, false, false, false, false, false, false] rfl rfl (any_of HT_.out (by kernel_rfl)) (fun _ _ _ h => h) (Or.inl ⟨by rfl, ?_⟩) ?_ ?_
                rotate_left
                · intro w'
                  go_simp
                  with_reducible rfl
                rotate_left
                · simp only [Act.put, List.setIfInBounds_toArray, List.set_cons_zero, List.set_cons_succ, i64_w, i32_w]
                  rfl
                refine pure_ (i := 15) (N := some 48) (v := ?_) (a' := ?_) #[true, true, true, true, true, true, true, true, true, true, true, true, true, true, false, true, false, false, false, false] rfl rfl (any_of HT_.out (by kernel_rfl)) (fun _ _ _ h => h) (Or.inl ⟨by rfl, ?_⟩) ?_ ?_
                rotate_left
                · intro w'
                  go_simp
                  with_reducible rfl
                rotate_left
                · simp only [Act.put, List.setIfInBounds_toArray, List.set_cons_zero, List.set_cons_succ, i64_w, i32_w]
                  rfl
                refine take_ (i := 14) (N := some 47) (v := ?_) (a' := ?_) #[true, true, true, true, true, true, true, true, true, true, true, true, true, true, true, true, false, false, false, false] rfl rfl (take_ofW HT_.out HW_.out (by kernel_rfl)) (fun _ _ _ h => h) (Or.inl ⟨by rfl, ?_⟩) hHeld ?_ ?_
                rotate_left
                · rintro w' ⟨s0, s1, s2, s3⟩
                  go_simp
                  with_reducible rfl
                rotate_left
                · simp only [Act.put, List.setIfInBounds_toArray, List.set_cons_zero, List.set_cons_succ, i64_w, i32_w]
                  rfl
                refine pure_ (i := 16) (N := some 49) (v := ?_) (a' := ?_) #[true, true, true, true, true, true, true, true, true, true, true, true, true, true, true, true, true, false, false, false] rfl rfl (any_of HT_.out (by kernel_rfl)) (fun _ _ _ h => h) (Or.inl ⟨by rfl, ?_⟩) ?_ ?_
                rotate_left
                · intro w'
                  go_simp
                  with_reducible rfl
                rotate_left
                · simp only [Act.put, List.setIfInBounds_toArray, List.set_cons_zero, List.set_cons_succ, i64_w, i32_w]
                  rfl
                refine pure_ (i := 17) (N := some 50) (v := ?_) (a' := ?_) #[true, true, true, true, true, true, true, true, true, true, true, true, true, true, true, true, true, true, false, false] rfl rfl (any_of HT_.out (by kernel_rfl)) (fun _ _ _ h => h) (Or.inl ⟨by rfl, ?_⟩) ?_ ?_
                rotate_left
                · intro w'
                  go_simp
                  with_reducible rfl
                rotate_left
                · simp only [Act.put, List.setIfInBounds_toArray, List.set_cons_zero, List.set_cons_succ, i64_w, i32_w]
                  rfl
                refine pure_ (i := 18) (N := some 51) (v := ?_) (a' := ?_) #[true, true, true, true, true, true, true, true, true, true, true, true, true, true, true, true, true, true, true, false] rfl rfl (any_of HT_.out (by kernel_rfl)) (fun _ _ _ h => h) (Or.inl ⟨by rfl, ?_⟩) ?_ ?_
                rotate_left
                · intro w'
                  go_simp
                  with_reducible rfl
                rotate_left
                · simp only [Act.put, List.setIfInBounds_toArray, List.set_cons_zero, List.set_cons_succ, i64_w, i32_w]
                  rfl
                refine pure_ (i := 19) (N := some 2) (v := ?_) (a' := ?_) #[true, true, true, true, true, true, true, true, true, true, true, true, true, true, true, true, true, true, true, true] rfl rfl (any_of HT_.out (by kernel_rfl)) (fun _ _ _ h => h) (Or.inl ⟨by rfl, ?_⟩) ?_ ?_
                rotate_left
                · intro w'
                  go_simp
                  with_reducible rfl
                rotate_left
                · simp only [Act.put, List.setIfInBounds_toArray, List.set_cons_zero, List.set_cons_succ, i64_w, i32_w]
                  rfl
                refine done_ (done_of HT_.out (by kernel_rfl)) ?_
                try go_wp2
                go_ret
                exact ⟨by first | rfl | (simp [errW_none, errW_some] <;> rfl) | (simp [*, errW_none, errW_some] <;> rfl), by repeat (first | (with_reducible first | exact HB.out | apply below_alloc | apply pw_below_drewN | apply below_drew1 | refine below_set ?_ GE157.out | refine below_set ?_ GE178.out) | exact HB.out)⟩
            · rw [if_neg c65] at H
              have c65b0 : (t179 == t155 && (t180 == t156)) = false := by simpa using c65
              (try (have c65b1 : decide (t179 = t155 && (t180 == t156)) = false := by simpa using c65))
              (try (have c65b2 : (t179 == t155 && (t180 == t156)) = false := by simpa using c65))
              (try (have c65b3 : ¬ (t179 = t155 && (t180 == t156)) := by simpa using c65))
              clear c65
              exact Bool.noConfusion ((Option.some.inj H).trans HR_.out)
        · rw [if_neg c8] at H
          exact absurd H (by simp)
      · rw [if_neg c7] at H
        exact absurd H (by simp)
    · rw [if_neg c6] at H
      exact absurd H (by simp)
  · replace c3 := Bool.eq_false_iff.mpr c3
    subst c3
    have H1 : (some false) = some r := by rw [if_neg (show ¬ (false = true) by decide)] at H; exact H
    clear H
    have H := H1
    clear H1
    exact Bool.noConfusion ((Option.some.inj H).trans HR_.out)
/-- THE ONE PURE STATEMENT of plaitinglaw15_VoteGrows: yours. -/
def plaitinglaw15_VoteGrows.Pure : Prop := ∀ (l0 : List Int), l0.length ≤ maxLen → l0.length * 8 ≤ 140737488351232 → (∀ x ∈ l0, (Lit.int .i64 x).wf = true) → ∃ k, plaitinglaw15_VoteGrows.f k l0 = some true
theorem plaitinglaw15_VoteGrows.walk (P : plaitinglaw15_VoteGrows.Pure) (a0 : Option Addr) (len0 cap0 : Nat) (z0 : List Int) (w : World) (w0 : (a0 = none ∧ len0 = 0 ∧ cap0 = 0 ∧ z0 = []) ∨ ∃ x, a0 = some x ∧ len0 ≤ cap0 ∧ cap0 ≤ maxLen ∧ z0.length = cap0 ∧ (∀ i, i < z0.length → w.cell? (x.add i) = some (.int .i64 (z0.getD i 0))) ∧ ∀ n ∈ z0, (Lit.int .i64 n).wf = true) (y0 : len0 * 8 ≤ 140737488351232) :
    Calls Try.prog 7 #[.slice a0 len0 cap0] w fun e w' => e = .returned (.bool true) ∧ Below w.heap.size w w' := by
  obtain ⟨l0, rfl, hr0, hm0, hw0, hc0⟩ := ReadsInt.ofRowC w0
  obtain ⟨k, h⟩ := P l0 hm0 y0 hw0
  refine (plaitinglaw15_VoteGrows.calls k _ _ l0 true w rfl (Kd.C_of_reads (d := (0 : Int)) (h1 := fun _ => rfl) hr0) hc0 h).mono ?_
  rintro e w' ⟨rfl, hd⟩
  exact ⟨rfl, hd⟩

end Go.Proofs.Ytghdfppllknabaa.PVoteGrows
