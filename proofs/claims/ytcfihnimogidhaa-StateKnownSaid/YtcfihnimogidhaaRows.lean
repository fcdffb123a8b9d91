/-
  No cell of these rows narrows 'for every input' (looked for: loops, veiled, ifaces, maps, wideKeys, modest, calm, conditions, laid).
  DERIVED. THE GIVEN ROWS OF THIS SEAT. 6 by the template 'for every input the law returns true; each argument reads behind the call as it read before'; 0 by the template 'total and deterministic' (their statements: YtcfihnimogidhaaTotals.lean).
  GIVEN WITH THE SEED: the statements are not yours to turn. If you find one false, say at which input.
  Laid BY PROGRAM, IN A SANDBOX (cutbox-rows.mjs): the forced cells as the released guide's own fill.sh prints them over the translation 3de622b59b416190… (all of the seat's roots in one cut). By AI agents, Wed Nov 11 2026. No macro, syntax, notation, axiom, sorry.
-/
import Derived.Test.YtcfihnimogidhaaChecked
import GoSem.Claim
import GoSem.ClaimJoined
import GoSem.ClaimMapViews
import Derived.JoinedTies
import Derived.KernelRfl
namespace Go.Proofs.Ytcfihnimogidhaa
/- THE CELL 'sum', in the pinned program and in every row, IS THE sha256 OF THE DUMP (.gsa) THAT YtcfihnimogidhaaProg.lean LOADS. Nothing in Lean hashes anything: it is a label: what it is worth is what the hold of that sum in a sandbox is worth. -/
noncomputable def Try.pinned : Pinned := { name := "ytcfihnimogidhaa", sum := "3de622b59b41619010b103a69a97408195ad0742554eec775da6520defd5c209", checked := Try.checked }
namespace Rows
def none {H : Type} : Left H := { results := [], args := [] }

/-- 'plaitinglaw13.StateNext': WHATEVER THE INPUT: true; the input reads as it did. -/
def stateNextSpec : ChangeSpec := { name := "stateNext", fn := fun _ => fun
  | [d1, d2, d3, d4, d5] => { results := [.lit (.bool true)], args := [d1, d2, d3, d4, d5] }
  | _ => none }
def stateNextRow : OpenClaim := { program := "ytcfihnimogidhaa", sum := "3de622b59b41619010b103a69a97408195ad0742554eec775da6520defd5c209", func := "plaiting/plaitinglaw13.StateNext", spec := "stateNext", apart := false }
def StateNextSaid : Prop := stateNextRow.holds Try.pinned (OpenSpec.ofChange stateNextSpec)

/-- ITS FALSE NEIGHBOUR: 'it returns false'. Refute it at one input. -/
def stateNextWrong : ChangeSpec := { name := "stateNext", fn := fun _ => fun
  | [d1, d2, d3, d4, d5] => { results := [.lit (.bool false)], args := [d1, d2, d3, d4, d5] }
  | _ => none }
def StateNextWrongFalsely : Prop := stateNextRow.holds Try.pinned (OpenSpec.ofChange stateNextWrong)

/-- 'plaitinglaw13.StateAlone': WHATEVER THE INPUT: true; the input reads as it did. -/
def stateAloneSpec : ChangeSpec := { name := "stateAlone", fn := fun _ => fun
  | [d1, d2, d3] => { results := [.lit (.bool true)], args := [d1, d2, d3] }
  | _ => none }
def stateAloneRow : OpenClaim := { program := "ytcfihnimogidhaa", sum := "3de622b59b41619010b103a69a97408195ad0742554eec775da6520defd5c209", func := "plaiting/plaitinglaw13.StateAlone", spec := "stateAlone", apart := false }
def StateAloneSaid : Prop := stateAloneRow.holds Try.pinned (OpenSpec.ofChange stateAloneSpec)

/-- ITS FALSE NEIGHBOUR: 'it returns false'. Refute it at one input. -/
def stateAloneWrong : ChangeSpec := { name := "stateAlone", fn := fun _ => fun
  | [d1, d2, d3] => { results := [.lit (.bool false)], args := [d1, d2, d3] }
  | _ => none }
def StateAloneWrongFalsely : Prop := stateAloneRow.holds Try.pinned (OpenSpec.ofChange stateAloneWrong)

/-- 'plaitinglaw13.StateMost': WHATEVER THE INPUT: true; the input reads as it did. -/
def stateMostSpec : ChangeSpec := { name := "stateMost", fn := fun _ => fun
  | [d1, d2, d3, d4] => { results := [.lit (.bool true)], args := [d1, d2, d3, d4] }
  | _ => none }
def stateMostRow : OpenClaim := { program := "ytcfihnimogidhaa", sum := "3de622b59b41619010b103a69a97408195ad0742554eec775da6520defd5c209", func := "plaiting/plaitinglaw13.StateMost", spec := "stateMost", apart := false }
def StateMostSaid : Prop := stateMostRow.holds Try.pinned (OpenSpec.ofChange stateMostSpec)

/-- ITS FALSE NEIGHBOUR: 'it returns false'. Refute it at one input. -/
def stateMostWrong : ChangeSpec := { name := "stateMost", fn := fun _ => fun
  | [d1, d2, d3, d4] => { results := [.lit (.bool false)], args := [d1, d2, d3, d4] }
  | _ => none }
def StateMostWrongFalsely : Prop := stateMostRow.holds Try.pinned (OpenSpec.ofChange stateMostWrong)

/-- 'plaitinglaw13.StateHeard': WHATEVER THE INPUT: true; the input reads as it did. -/
def stateHeardSpec : ChangeSpec := { name := "stateHeard", fn := fun _ => fun
  | [d1, d2, d3, d4] => { results := [.lit (.bool true)], args := [d1, d2, d3, d4] }
  | _ => none }
def stateHeardRow : OpenClaim := { program := "ytcfihnimogidhaa", sum := "3de622b59b41619010b103a69a97408195ad0742554eec775da6520defd5c209", func := "plaiting/plaitinglaw13.StateHeard", spec := "stateHeard", apart := false }
def StateHeardSaid : Prop := stateHeardRow.holds Try.pinned (OpenSpec.ofChange stateHeardSpec)

/-- ITS FALSE NEIGHBOUR: 'it returns false'. Refute it at one input. -/
def stateHeardWrong : ChangeSpec := { name := "stateHeard", fn := fun _ => fun
  | [d1, d2, d3, d4] => { results := [.lit (.bool false)], args := [d1, d2, d3, d4] }
  | _ => none }
def StateHeardWrongFalsely : Prop := stateHeardRow.holds Try.pinned (OpenSpec.ofChange stateHeardWrong)

/-- 'plaitinglaw13.StateKnown': WHATEVER THE INPUT: true; the input reads as it did. -/
def stateKnownSpec : ChangeSpec := { name := "stateKnown", fn := fun _ => fun
  | [d] => { results := [.lit (.bool true)], args := [d] }
  | _ => none }
def stateKnownRow : OpenClaim := { program := "ytcfihnimogidhaa", sum := "3de622b59b41619010b103a69a97408195ad0742554eec775da6520defd5c209", func := "plaiting/plaitinglaw13.StateKnown", spec := "stateKnown", apart := false }
def StateKnownSaid : Prop := stateKnownRow.holds Try.pinned (OpenSpec.ofChange stateKnownSpec)

/-- ITS FALSE NEIGHBOUR: 'it returns false'. Refute it at one input. -/
def stateKnownWrong : ChangeSpec := { name := "stateKnown", fn := fun _ => fun
  | [d] => { results := [.lit (.bool false)], args := [d] }
  | _ => none }
def StateKnownWrongFalsely : Prop := stateKnownRow.holds Try.pinned (OpenSpec.ofChange stateKnownWrong)

/-- 'plaitinglaw13.StateWalks': WHATEVER THE INPUT: true; the input reads as it did. -/
def stateWalksSpec : ChangeSpec := { name := "stateWalks", fn := fun _ => fun
  | [d1, d2, d3] => { results := [.lit (.bool true)], args := [d1, d2, d3] }
  | _ => none }
def stateWalksRow : OpenClaim := { program := "ytcfihnimogidhaa", sum := "3de622b59b41619010b103a69a97408195ad0742554eec775da6520defd5c209", func := "plaiting/plaitinglaw13.StateWalks", spec := "stateWalks", apart := false }
def StateWalksSaid : Prop := stateWalksRow.holds Try.pinned (OpenSpec.ofChange stateWalksSpec)

/-- ITS FALSE NEIGHBOUR: 'it returns false'. Refute it at one input. -/
def stateWalksWrong : ChangeSpec := { name := "stateWalks", fn := fun _ => fun
  | [d1, d2, d3] => { results := [.lit (.bool false)], args := [d1, d2, d3] }
  | _ => none }
def StateWalksWrongFalsely : Prop := stateWalksRow.holds Try.pinned (OpenSpec.ofChange stateWalksWrong)

/- THE SECOND FORM. 'bulk': how many values and letters a reading holds, each counted each time it is reached (what is shared counts as often as it is met; a slice's spare places count too). A statement '..UptoSaid' is the law's where the arguments, and the package variables that the reading takes, are together of bulk at most 1048576: NARROWER than '..Said'. Prove '..Said' where nothing that the law and all that it calls make is longer than what came in: it says more and counts as full. Else prove '..UptoSaid'. A law counts once. -/
mutual
def uptoBulk {H : Type} : DataW H → Nat
  | .lit (.string bytes) => bytes.length + 1
  | .lit _ => 1
  | .nil => 1
  | .ptr d => uptoBulk d + 1
  | .slice elems spare => uptoBulkAll elems + uptoBulkAll spare + 1
  | .agg parts => uptoBulkAll parts + 1
  | .iface _ d => uptoBulk d + 1
  | .map entries => uptoBulkEntries entries + 1
  | .held _ => 1
def uptoBulkAll {H : Type} : List (DataW H) → Nat
  | [] => 0
  | d :: r => uptoBulk d + uptoBulkAll r
def uptoBulkEntries {H : Type} : List (Lit × DataW H) → Nat
  | [] => 0
  | x :: r => uptoBulkEntry x + uptoBulkEntries r
def uptoBulkEntry {H : Type} : Lit × DataW H → Nat
  | (.string bytes, d) => bytes.length + uptoBulk d + 1
  | (_, d) => uptoBulk d + 1
 end
def uptoSmall : (H : Type) → List (DataW H) → Bool := fun _ ds => decide (uptoBulkAll ds ≤ 1048576)
def OpenSpec.upto (s : _root_.Go.ChangeSpec) : _root_.Go.OpenSpec := { _root_.Go.OpenSpec.ofChange s with cond := some uptoSmall }

/-- 'plaitinglaw13.StateNext', WHERE WHAT IT READS IS OF BULK AT MOST 1048576: true; the input reads as it did. -/
def stateNextUptoRow : OpenClaim := { program := "ytcfihnimogidhaa", sum := "3de622b59b41619010b103a69a97408195ad0742554eec775da6520defd5c209", func := "plaiting/plaitinglaw13.StateNext", spec := "stateNext", apart := false, narrowed := true }
def StateNextUptoSaid : Prop := stateNextUptoRow.holds Try.pinned (OpenSpec.upto stateNextSpec)

/-- 'plaitinglaw13.StateAlone', WHERE WHAT IT READS IS OF BULK AT MOST 1048576: true; the input reads as it did. -/
def stateAloneUptoRow : OpenClaim := { program := "ytcfihnimogidhaa", sum := "3de622b59b41619010b103a69a97408195ad0742554eec775da6520defd5c209", func := "plaiting/plaitinglaw13.StateAlone", spec := "stateAlone", apart := false, narrowed := true }
def StateAloneUptoSaid : Prop := stateAloneUptoRow.holds Try.pinned (OpenSpec.upto stateAloneSpec)

/-- 'plaitinglaw13.StateMost', WHERE WHAT IT READS IS OF BULK AT MOST 1048576: true; the input reads as it did. -/
def stateMostUptoRow : OpenClaim := { program := "ytcfihnimogidhaa", sum := "3de622b59b41619010b103a69a97408195ad0742554eec775da6520defd5c209", func := "plaiting/plaitinglaw13.StateMost", spec := "stateMost", apart := false, narrowed := true }
def StateMostUptoSaid : Prop := stateMostUptoRow.holds Try.pinned (OpenSpec.upto stateMostSpec)

/-- 'plaitinglaw13.StateHeard', WHERE WHAT IT READS IS OF BULK AT MOST 1048576: true; the input reads as it did. -/
def stateHeardUptoRow : OpenClaim := { program := "ytcfihnimogidhaa", sum := "3de622b59b41619010b103a69a97408195ad0742554eec775da6520defd5c209", func := "plaiting/plaitinglaw13.StateHeard", spec := "stateHeard", apart := false, narrowed := true }
def StateHeardUptoSaid : Prop := stateHeardUptoRow.holds Try.pinned (OpenSpec.upto stateHeardSpec)

/-- 'plaitinglaw13.StateKnown', WHERE WHAT IT READS IS OF BULK AT MOST 1048576: true; the input reads as it did. -/
def stateKnownUptoRow : OpenClaim := { program := "ytcfihnimogidhaa", sum := "3de622b59b41619010b103a69a97408195ad0742554eec775da6520defd5c209", func := "plaiting/plaitinglaw13.StateKnown", spec := "stateKnown", apart := false, narrowed := true }
def StateKnownUptoSaid : Prop := stateKnownUptoRow.holds Try.pinned (OpenSpec.upto stateKnownSpec)

/-- 'plaitinglaw13.StateWalks', WHERE WHAT IT READS IS OF BULK AT MOST 1048576: true; the input reads as it did. -/
def stateWalksUptoRow : OpenClaim := { program := "ytcfihnimogidhaa", sum := "3de622b59b41619010b103a69a97408195ad0742554eec775da6520defd5c209", func := "plaiting/plaitinglaw13.StateWalks", spec := "stateWalks", apart := false, narrowed := true }
def StateWalksUptoSaid : Prop := stateWalksUptoRow.holds Try.pinned (OpenSpec.upto stateWalksSpec)

end Rows
end Go.Proofs.Ytcfihnimogidhaa
