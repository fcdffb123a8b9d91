/- Functions that the claim reaches, each as a plain Lean function with a proof that the Go call comes to what it answers, written by the printer of the kit for this claim over stand-in bodies whose own contracts are proved by hand. Conditions: the readings stated in each theorem. -/
import Derived.Test.YtcfihnimogidhaaProg
import Derived.Below
import Derived.Deep.Draws
import Derived.Deep.AppendLies
import Derived.Maps.AppendAt
import Derived.OwnWalk
import Derived.Laws.BytesArg
import Derived.Laws.MakeOwn
import Derived.Laws.OwnMore
import Derived.Deep.OwnRows
import Derived.Tactics
import Derived.Lib.ConvBytes
import Derived.Laws.Slices
import Derived.WalkKit
import Derived.KernelRfl
import Derived.RowKit3
import Derived.Deep.LoopGhost
import Derived.Deep.QuietTactic
import Derived.BigQuiet
import Derived.WideLaws
import Derived.Deep.DeepCutAuto
import Derived.Deep.CutBlock
import Derived.Deep.RegionHeld3
import Derived.Laws.Rows
import Derived.Lib.AppendStr
import Derived.ArgAppend
import Derived.Laws.IdiomCopy
import Derived.OrdersHeld
import Derived.Laws.BitsLemmas
import Derived.RowKit
import Derived.Test.YtcfihnimogidhaaWWords
import Derived.Test.YtcfihnimogidhaaWLast
import Derived.Test.YtcfihnimogidhaaWTab
import Derived.Test.YtcfihnimogidhaaWFour
import Derived.Test.YtcfihnimogidhaaWQPut
import Derived.Test.YtcfihnimogidhaaWApart
import Derived.Test.YtcfihnimogidhaaWArr
import Derived.Test.YtcfihnimogidhaaWZeros
import Derived.Test.YtcfihnimogidhaaWFoot
import Derived.Test.YtcfihnimogidhaaWKept
import Derived.Test.YtcfihnimogidhaaWShare
import Derived.Test.YtcfihnimogidhaaWN
import Derived.Test.YtcfihnimogidhaaWFootNe
import Derived.Test.YtcfihnimogidhaaWAt
import Derived.Test.YtcfihnimogidhaaWEqStruct
import Derived.Test.YtcfihnimogidhaaWRepsOne
import Derived.Test.YtcfihnimogidhaaWInv
import Derived.Test.YtcfihnimogidhaaWInvWords
import Derived.Test.YtcfihnimogidhaaWGuard
import Derived.Test.YtcfihnimogidhaaWNEv
import Derived.Test.YtcfihnimogidhaaWMore
namespace Go.Proofs.Ytcfihnimogidhaa.PStateKnown
open Go.RowKit Go.Proofs.YtcfihnimogidhaaW.PrintWords Go.Proofs.YtcfihnimogidhaaW.PrintLast Go.Proofs.YtcfihnimogidhaaW.PrintMore
attribute [local go_sem] max2_int min2_int max_two min_two max_three min_three max_four min_four   -- for this text's walks alone
set_option linter.unusedVariables false
set_option linter.unusedSimpArgs false



def errW : Option Int → Value
  | none => .nilIface
  | some c => .iface 0 (.int .i64 c)
theorem errW_none : errW none = .nilIface := rfl
theorem errW_some (c : Int) : errW (some c) = .iface 0 (.int .i64 c) := rfl

-- the values' own types

end Go.Proofs.Ytcfihnimogidhaa.PStateKnown
