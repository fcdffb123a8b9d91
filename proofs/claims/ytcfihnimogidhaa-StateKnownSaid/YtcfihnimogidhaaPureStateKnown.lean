/- The pure statement of the law StateKnown: for all its arguments the plain function answers true. No condition but that the numbers are of their kind and the rows of a length that can be. -/
import Derived.Test.YtcfihnimogidhaaPStateKnownx2
namespace Go.Proofs.Ytcfihnimogidhaa.Pure
open Go.RowKit Go.Proofs.Ytcfihnimogidhaa.PStateKnown Go.Proofs.YtcfihnimogidhaaW.PrintWords Go.Proofs.YtcfihnimogidhaaW.PrintLast
set_option linter.unusedVariables false


theorem StateKnown : ∀ (a0 : Int), (Lit.int .i64 a0).wf = true → plaitinglaw13_StateKnown.f a0 = some true := by
  intro a0 _
  rfl

end Go.Proofs.Ytcfihnimogidhaa.Pure
