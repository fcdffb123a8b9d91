/- The walk of the law StateKnown: the Go call answers true, whatever the number. No condition beyond the number's reading. -/
import Derived.Test.YtcfihnimogidhaaPStateKnownx1
namespace Go.Proofs.Ytcfihnimogidhaa.PStateKnown
open Go.RowKit Go.Proofs.YtcfihnimogidhaaW.PrintWords Go.Proofs.YtcfihnimogidhaaW.PrintLast Go.Proofs.YtcfihnimogidhaaW.PrintMore
set_option linter.unusedVariables false
set_option linter.unusedSimpArgs false

/-- The law answers true: there is nothing to compute. -/
def plaitinglaw13_StateKnown.f (_ : Int) : Option Bool := some true
theorem bcell {W w1 : World} (hb : Below W.heap.size W w1) : (∀ b o, b < W.heap.size → w1.cell? ⟨b, o, none⟩ = W.cell? ⟨b, o, none⟩) ∧ (∀ b o, b < W.heap.size → w1.frozen? ⟨b, o, none⟩ = W.frozen? ⟨b, o, none⟩) :=
  ⟨fun b o h => hb.cell (p := ⟨b, o, none⟩) h, fun b o h => hb.frozen (p := ⟨b, o, none⟩) h⟩
theorem next0 : state_Next.f 7 4 0 0 0 [] 2 1 7 0 = some (1, 8) := by decide +kernel
theorem next1 : state_Next.f 7 4 0 0 0 [] 2 1 8 0 = some (2, 0) := by decide +kernel
theorem next2 : state_Next.f 7 4 0 0 0 [] 2 1 8 1 = some (3, 0) := by decide +kernel
theorem next3 : state_Next.f 7 4 0 0 0 [] 0 1 6 0 = some (2, 0) := by decide +kernel
theorem next4 : state_Next.f 7 4 0 0 0 [] 0 1 5 0 = some (1, 6) := by decide +kernel
theorem next5 : state_Next.f 7 4 0 0 0 [] 3 2 5 0 = some (3, 0) := by decide +kernel
theorem next6 : state_Next.f 7 4 0 0 0 [] 3 3 0 3 = some (4, 0) := by decide +kernel
theorem next7 : state_Next.f 7 4 0 0 0 [] 3 3 1 2 = some (3, 2) := by decide +kernel
theorem next8 : state_Next.f 7 4 0 0 0 [] 3 3 2 2 = some (1, 0) := by decide +kernel
theorem next9 : state_Next.f 7 4 0 0 0 [] 3 3 2 3 = some (4, 0) := by decide +kernel
theorem next10 : state_Next.f 7 4 0 0 0 [] 3 4 0 3 = some (4, 0) := by decide +kernel
theorem next11 : state_Next.f 7 4 0 0 0 [] 3 4 0 2 = some (1, 0) := by decide +kernel
theorem next12 : state_Next.f 7 4 0 0 0 [] 3 0 4 6 = some (0, 0) := by decide +kernel
theorem next13 : state_Next.f 7 4 0 0 0 [] 3 9 4 6 = some (0, 0) := by decide +kernel
theorem within_lt (a : Int) : ∃ r, plaitinglaw13_within.f a 14 = some r ∧ 0 ≤ r ∧ r < 14 := by
  have h1 := Int.tmod_lt_of_pos a (by omega : (0 : Int) < 14)
  have h2 := Int.lt_tmod_of_pos a (by omega : (0 : Int) < 14)
  unfold plaitinglaw13_within.f
  rw [if_neg (by omega)]
  by_cases c : Int.tmod a 14 < 0
  · rw [if_pos c]
    refine ⟨_, rfl, ?_, ?_⟩ <;> (unfold wrap64; omega)
  · rw [if_neg c]
    exact ⟨_, rfl, by omega, h1⟩
set_option maxHeartbeats 8000000 in
set_option maxRecDepth 100000 in
theorem plaitinglaw13_StateKnown.calls (a0 : Int) (r : Bool) (w : World) (hr_ : r = true) (h : plaitinglaw13_StateKnown.f a0 = some r) :
    Calls Try.prog 7 #[.int .i64 a0] w fun e w' => e = .returned (.bool r) ∧ Below w.heap.size w w' := by
  subst hr_
  clear h
  obtain ⟨u, hu, u0, u1⟩ := within_lt a0
  have hu24 := Try.underlying24
  have HU := Aside0.mk hu
  clear hu
  have hv : Aside0 (plaitinglaw13_known.f = some true) := ⟨by decide +kernel⟩
  go_enter Try.func7, Try.ntmps7
  go_wp2_with fail
  refine (plaitinglaw13_known.calls true w hv.out).mono ?_
  rintro e w1 ⟨rfl, hb1⟩
  have HB1 := Aside0.mk hb1
  clear hb1
  go_wp2_with fail
  refine (plaitinglaw13_within.calls a0 14 u _ HU.out).mono ?_
  rintro e w2 ⟨rfl, ⟨nd, rfl⟩⟩
  clear HU
  rcases (by omega : u = 0 ∨ u = 1 ∨ u = 2 ∨ u = 3 ∨ u = 4 ∨ u = 5 ∨ u = 6 ∨ u = 7 ∨ u = 8 ∨ u = 9 ∨ u = 10 ∨ u = 11 ∨ u = 12 ∨ u = 13) with rfl | rfl | rfl | rfl | rfl | rfl | rfl | rfl | rfl | rfl | rfl | rfl | rfl | rfl
  · clear u0 u1
    go_wp2_with fail
    refine (state_Next.calls 7 4 0 0 0 none 0 [] 2 1 7 0 1 8 _ (Kd.C_nil _ _) (Nat.le_refl _) next0).mono ?_
    rintro e w3 ⟨rfl, hb3⟩
    have HB3 := Aside0.mk hb3
    obtain ⟨hc, hf⟩ := bcell hb3
    clear hb3
    go_wp2
    go_ret
    exact ⟨rfl, by repeat (first | (with_reducible first | exact HB1.out | apply below_alloc | apply pw_below_drewN | apply below_drew1 | refine below_step ?_ HB3.out) | exact HB1.out)⟩
  · clear u0 u1
    go_wp2_with fail
    refine (state_Next.calls 7 4 0 0 0 none 0 [] 2 1 8 0 2 0 _ (Kd.C_nil _ _) (Nat.le_refl _) next1).mono ?_
    rintro e w3 ⟨rfl, hb3⟩
    have HB3 := Aside0.mk hb3
    obtain ⟨hc, hf⟩ := bcell hb3
    clear hb3
    go_wp2
    go_ret
    exact ⟨rfl, by repeat (first | (with_reducible first | exact HB1.out | apply below_alloc | apply pw_below_drewN | apply below_drew1 | refine below_step ?_ HB3.out) | exact HB1.out)⟩
  · clear u0 u1
    go_wp2_with fail
    refine (state_Next.calls 7 4 0 0 0 none 0 [] 2 1 8 1 3 0 _ (Kd.C_nil _ _) (Nat.le_refl _) next2).mono ?_
    rintro e w3 ⟨rfl, hb3⟩
    have HB3 := Aside0.mk hb3
    obtain ⟨hc, hf⟩ := bcell hb3
    clear hb3
    go_wp2
    go_ret
    exact ⟨rfl, by repeat (first | (with_reducible first | exact HB1.out | apply below_alloc | apply pw_below_drewN | apply below_drew1 | refine below_step ?_ HB3.out) | exact HB1.out)⟩
  · clear u0 u1
    go_wp2_with fail
    refine (state_Next.calls 7 4 0 0 0 none 0 [] 0 1 6 0 2 0 _ (Kd.C_nil _ _) (Nat.le_refl _) next3).mono ?_
    rintro e w3 ⟨rfl, hb3⟩
    have HB3 := Aside0.mk hb3
    obtain ⟨hc, hf⟩ := bcell hb3
    clear hb3
    go_wp2
    go_ret
    exact ⟨rfl, by repeat (first | (with_reducible first | exact HB1.out | apply below_alloc | apply pw_below_drewN | apply below_drew1 | refine below_step ?_ HB3.out) | exact HB1.out)⟩
  · clear u0 u1
    go_wp2_with fail
    refine (state_Next.calls 7 4 0 0 0 none 0 [] 0 1 5 0 1 6 _ (Kd.C_nil _ _) (Nat.le_refl _) next4).mono ?_
    rintro e w3 ⟨rfl, hb3⟩
    have HB3 := Aside0.mk hb3
    obtain ⟨hc, hf⟩ := bcell hb3
    clear hb3
    go_wp2
    go_ret
    exact ⟨rfl, by repeat (first | (with_reducible first | exact HB1.out | apply below_alloc | apply pw_below_drewN | apply below_drew1 | refine below_step ?_ HB3.out) | exact HB1.out)⟩
  · clear u0 u1
    go_wp2_with fail
    refine (state_Next.calls 7 4 0 0 0 none 0 [] 3 2 5 0 3 0 _ (Kd.C_nil _ _) (Nat.le_refl _) next5).mono ?_
    rintro e w3 ⟨rfl, hb3⟩
    have HB3 := Aside0.mk hb3
    obtain ⟨hc, hf⟩ := bcell hb3
    clear hb3
    go_wp2
    go_ret
    exact ⟨rfl, by repeat (first | (with_reducible first | exact HB1.out | apply below_alloc | apply pw_below_drewN | apply below_drew1 | refine below_step ?_ HB3.out) | exact HB1.out)⟩
  · clear u0 u1
    go_wp2_with fail
    refine (state_Next.calls 7 4 0 0 0 none 0 [] 3 3 0 3 4 0 _ (Kd.C_nil _ _) (Nat.le_refl _) next6).mono ?_
    rintro e w3 ⟨rfl, hb3⟩
    have HB3 := Aside0.mk hb3
    obtain ⟨hc, hf⟩ := bcell hb3
    clear hb3
    go_wp2
    go_ret
    exact ⟨rfl, by repeat (first | (with_reducible first | exact HB1.out | apply below_alloc | apply pw_below_drewN | apply below_drew1 | refine below_step ?_ HB3.out) | exact HB1.out)⟩
  · clear u0 u1
    go_wp2_with fail
    refine (state_Next.calls 7 4 0 0 0 none 0 [] 3 3 1 2 3 2 _ (Kd.C_nil _ _) (Nat.le_refl _) next7).mono ?_
    rintro e w3 ⟨rfl, hb3⟩
    have HB3 := Aside0.mk hb3
    obtain ⟨hc, hf⟩ := bcell hb3
    clear hb3
    go_wp2
    go_ret
    exact ⟨rfl, by repeat (first | (with_reducible first | exact HB1.out | apply below_alloc | apply pw_below_drewN | apply below_drew1 | refine below_step ?_ HB3.out) | exact HB1.out)⟩
  · clear u0 u1
    go_wp2_with fail
    refine (state_Next.calls 7 4 0 0 0 none 0 [] 3 3 2 2 1 0 _ (Kd.C_nil _ _) (Nat.le_refl _) next8).mono ?_
    rintro e w3 ⟨rfl, hb3⟩
    have HB3 := Aside0.mk hb3
    obtain ⟨hc, hf⟩ := bcell hb3
    clear hb3
    go_wp2
    go_ret
    exact ⟨rfl, by repeat (first | (with_reducible first | exact HB1.out | apply below_alloc | apply pw_below_drewN | apply below_drew1 | refine below_step ?_ HB3.out) | exact HB1.out)⟩
  · clear u0 u1
    go_wp2_with fail
    refine (state_Next.calls 7 4 0 0 0 none 0 [] 3 3 2 3 4 0 _ (Kd.C_nil _ _) (Nat.le_refl _) next9).mono ?_
    rintro e w3 ⟨rfl, hb3⟩
    have HB3 := Aside0.mk hb3
    obtain ⟨hc, hf⟩ := bcell hb3
    clear hb3
    go_wp2
    go_ret
    exact ⟨rfl, by repeat (first | (with_reducible first | exact HB1.out | apply below_alloc | apply pw_below_drewN | apply below_drew1 | refine below_step ?_ HB3.out) | exact HB1.out)⟩
  · clear u0 u1
    go_wp2_with fail
    refine (state_Next.calls 7 4 0 0 0 none 0 [] 3 4 0 3 4 0 _ (Kd.C_nil _ _) (Nat.le_refl _) next10).mono ?_
    rintro e w3 ⟨rfl, hb3⟩
    have HB3 := Aside0.mk hb3
    obtain ⟨hc, hf⟩ := bcell hb3
    clear hb3
    go_wp2
    go_ret
    exact ⟨rfl, by repeat (first | (with_reducible first | exact HB1.out | apply below_alloc | apply pw_below_drewN | apply below_drew1 | refine below_step ?_ HB3.out) | exact HB1.out)⟩
  · clear u0 u1
    go_wp2_with fail
    refine (state_Next.calls 7 4 0 0 0 none 0 [] 3 4 0 2 1 0 _ (Kd.C_nil _ _) (Nat.le_refl _) next11).mono ?_
    rintro e w3 ⟨rfl, hb3⟩
    have HB3 := Aside0.mk hb3
    obtain ⟨hc, hf⟩ := bcell hb3
    clear hb3
    go_wp2
    go_ret
    exact ⟨rfl, by repeat (first | (with_reducible first | exact HB1.out | apply below_alloc | apply pw_below_drewN | apply below_drew1 | refine below_step ?_ HB3.out) | exact HB1.out)⟩
  · clear u0 u1
    go_wp2_with fail
    refine (state_Next.calls 7 4 0 0 0 none 0 [] 3 0 4 6 0 0 _ (Kd.C_nil _ _) (Nat.le_refl _) next12).mono ?_
    rintro e w3 ⟨rfl, hb3⟩
    have HB3 := Aside0.mk hb3
    obtain ⟨hc, hf⟩ := bcell hb3
    clear hb3
    go_wp2
    go_ret
    exact ⟨rfl, by repeat (first | (with_reducible first | exact HB1.out | apply below_alloc | apply pw_below_drewN | apply below_drew1 | refine below_step ?_ HB3.out) | exact HB1.out)⟩
  · clear u0 u1
    go_wp2_with fail
    refine (state_Next.calls 7 4 0 0 0 none 0 [] 3 9 4 6 0 0 _ (Kd.C_nil _ _) (Nat.le_refl _) next13).mono ?_
    rintro e w3 ⟨rfl, hb3⟩
    have HB3 := Aside0.mk hb3
    obtain ⟨hc, hf⟩ := bcell hb3
    clear hb3
    go_wp2
    go_ret
    exact ⟨rfl, by repeat (first | (with_reducible first | exact HB1.out | apply below_alloc | apply pw_below_drewN | apply below_drew1 | refine below_step ?_ HB3.out) | exact HB1.out)⟩
end Go.Proofs.Ytcfihnimogidhaa.PStateKnown
