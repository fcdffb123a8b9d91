/- Functions that the claim reaches, each as a plain Lean function with a proof that the Go call comes to what it answers, written by the printer of the kit for this claim over stand-in bodies whose own contracts are proved by hand. Conditions: the readings stated in each theorem. -/
import Derived.Test.YtghdfppllknabaaPVoteKnownx0
namespace Go.Proofs.Ytghdfppllknabaa.PVoteKnown
open Go.RowKit Go.Proofs.YtghdfppllknabaaW.PrintWords Go.Proofs.YtghdfppllknabaaW.PrintLast Go.Proofs.YtghdfppllknabaaW.PrintMore
attribute [local go_sem] max2_int min2_int max_two min_two max_three min_three max_four min_four   -- for this text's walks alone
set_option linter.unusedVariables false
set_option linter.unusedSimpArgs false

theorem eqA29 (d : Nat) (w : World) (x0 y0 : Int) (x1 y1 : Int) :
    (Op.equalIn (d + 2) 29 (.agg #[.int .i64 x0, .int .i64 x1]) (.agg #[.int .i64 y0, .int .i64 y1])).run Try.prog w = .ok (x0 == y0 && (x1 == y1)) w := by
  refine eqA_of Try.underlying29 (by kernel_rfl) ?_
  refine eqf_cons (by rfl) (by go_simp; rfl) (by go_simp; rfl) (by go_simp) ?_
  exact eqf_last (by rfl) (by go_simp; rfl) (by go_simp; rfl) (by go_simp)
end Go.Proofs.Ytghdfppllknabaa.PVoteKnown
