/-
  No cell of these rows narrows 'for every input' (looked for: loops, veiled, ifaces, maps, wideKeys, modest, calm, conditions, laid).
  DERIVED. THE GIVEN ROWS OF THIS SEAT. 4 by the template 'for every input the law returns true; each argument reads behind the call as it read before'; 0 by the template 'total and deterministic' (their statements: YtldokdfncoahoaaTotals.lean).
  GIVEN WITH THE SEED: the statements are not yours to turn. If you find one false, say at which input.
  Laid BY PROGRAM, IN A SANDBOX (cutbox-rows.mjs): the forced cells as the released guide's own fill.sh prints them over the translation 7856e065fb0ee738… (all of the seat's roots in one cut). By AI agents, Wed Nov 11 2026. No macro, syntax, notation, axiom, sorry.
-/
import Derived.Test.YtldokdfncoahoaaChecked
import GoSem.Claim
import GoSem.ClaimJoined
import GoSem.ClaimMapViews
import Derived.JoinedTies
import Derived.KernelRfl
namespace Go.Proofs.Ytldokdfncoahoaa
/- THE CELL 'sum', in the pinned program and in every row, IS THE sha256 OF THE DUMP (.gsa) THAT YtldokdfncoahoaaProg.lean LOADS. Nothing in Lean hashes anything: it is a label: what it is worth is what the hold of that sum in a sandbox is worth. -/
noncomputable def Try.pinned : Pinned := { name := "ytldokdfncoahoaa", sum := "7856e065fb0ee7389951fb28889cda832ce3b209d43173f561bcde1169a4bf51", checked := Try.checked }
namespace Rows
def none {H : Type} : Left H := { results := [], args := [] }

/-- 'plaitinglaw8.GuardAll': WHATEVER THE INPUT: true; the input reads as it did. -/
def guardAllSpec : ChangeSpec := { name := "guardAll", fn := fun _ => fun
  | [d1, d2, d3, d4] => { results := [.lit (.bool true)], args := [d1, d2, d3, d4] }
  | _ => none }
def guardAllRow : OpenClaim := { program := "ytldokdfncoahoaa", sum := "7856e065fb0ee7389951fb28889cda832ce3b209d43173f561bcde1169a4bf51", func := "plaiting/plaitinglaw8.GuardAll", spec := "guardAll", unfollowed := true, recurses := true, apart := false }
def GuardAllSaid : Prop := guardAllRow.holds Try.pinned (OpenSpec.ofChange guardAllSpec)

/-- ITS FALSE NEIGHBOUR: 'it returns false'. Refute it at one input. -/
def guardAllWrong : ChangeSpec := { name := "guardAll", fn := fun _ => fun
  | [d1, d2, d3, d4] => { results := [.lit (.bool false)], args := [d1, d2, d3, d4] }
  | _ => none }
def GuardAllWrongFalsely : Prop := guardAllRow.holds Try.pinned (OpenSpec.ofChange guardAllWrong)

/-- 'plaitinglaw8.GuardWindow': WHATEVER THE INPUT: true; the input reads as it did. -/
def guardWindowSpec : ChangeSpec := { name := "guardWindow", fn := fun _ => fun
  | [d1, d2, d3] => { results := [.lit (.bool true)], args := [d1, d2, d3] }
  | _ => none }
def guardWindowRow : OpenClaim := { program := "ytldokdfncoahoaa", sum := "7856e065fb0ee7389951fb28889cda832ce3b209d43173f561bcde1169a4bf51", func := "plaiting/plaitinglaw8.GuardWindow", spec := "guardWindow", unfollowed := true, recurses := true, apart := false }
def GuardWindowSaid : Prop := guardWindowRow.holds Try.pinned (OpenSpec.ofChange guardWindowSpec)

/-- ITS FALSE NEIGHBOUR: 'it returns false'. Refute it at one input. -/
def guardWindowWrong : ChangeSpec := { name := "guardWindow", fn := fun _ => fun
  | [d1, d2, d3] => { results := [.lit (.bool false)], args := [d1, d2, d3] }
  | _ => none }
def GuardWindowWrongFalsely : Prop := guardWindowRow.holds Try.pinned (OpenSpec.ofChange guardWindowWrong)

/-- 'plaitinglaw8.GuardEnds': WHATEVER THE INPUT: true; the input reads as it did. -/
def guardEndsSpec : ChangeSpec := { name := "guardEnds", fn := fun _ => fun
  | [d1, d2, d3] => { results := [.lit (.bool true)], args := [d1, d2, d3] }
  | _ => none }
def guardEndsRow : OpenClaim := { program := "ytldokdfncoahoaa", sum := "7856e065fb0ee7389951fb28889cda832ce3b209d43173f561bcde1169a4bf51", func := "plaiting/plaitinglaw8.GuardEnds", spec := "guardEnds", unfollowed := true, recurses := true, apart := false }
def GuardEndsSaid : Prop := guardEndsRow.holds Try.pinned (OpenSpec.ofChange guardEndsSpec)

/-- ITS FALSE NEIGHBOUR: 'it returns false'. Refute it at one input. -/
def guardEndsWrong : ChangeSpec := { name := "guardEnds", fn := fun _ => fun
  | [d1, d2, d3] => { results := [.lit (.bool false)], args := [d1, d2, d3] }
  | _ => none }
def GuardEndsWrongFalsely : Prop := guardEndsRow.holds Try.pinned (OpenSpec.ofChange guardEndsWrong)

/-- 'plaitinglaw8.GuardSteps': WHATEVER THE INPUT: true; the input reads as it did. -/
def guardStepsSpec : ChangeSpec := { name := "guardSteps", fn := fun _ => fun
  | [d1, d2, d3, d4] => { results := [.lit (.bool true)], args := [d1, d2, d3, d4] }
  | _ => none }
def guardStepsRow : OpenClaim := { program := "ytldokdfncoahoaa", sum := "7856e065fb0ee7389951fb28889cda832ce3b209d43173f561bcde1169a4bf51", func := "plaiting/plaitinglaw8.GuardSteps", spec := "guardSteps", unfollowed := true, recurses := true, apart := false }
def GuardStepsSaid : Prop := guardStepsRow.holds Try.pinned (OpenSpec.ofChange guardStepsSpec)

/-- ITS FALSE NEIGHBOUR: 'it returns false'. Refute it at one input. -/
def guardStepsWrong : ChangeSpec := { name := "guardSteps", fn := fun _ => fun
  | [d1, d2, d3, d4] => { results := [.lit (.bool false)], args := [d1, d2, d3, d4] }
  | _ => none }
def GuardStepsWrongFalsely : Prop := guardStepsRow.holds Try.pinned (OpenSpec.ofChange guardStepsWrong)

/- THE SECOND FORM. 'bulk': how many values and letters a reading holds, each counted each time it is reached (what is shared counts as often as it is met; a slice's spare places count too). A statement '..UptoSaid' is the law's where the arguments, and the package variables that the reading takes, are together of bulk at most 1048576: NARROWER than '..Said'. Prove '..Said' where nothing that the law and all that it calls make is longer than what came in: it says more and counts as full. Else prove '..UptoSaid'. A law counts once. -/
mutual
def uptoBulk {H : Type} : DataW H → Nat
  | .lit (.string bytes) => bytes.length + 1
  | .lit _ => 1
  | .nil => 1
  | .ptr d => uptoBulk d + 1
  | .slice elems spare => uptoBulkAll elems + uptoBulkAll spare + 1
  | .agg parts => uptoBulkAll parts + 1
  | .iface _ d => uptoBulk d + 1
  | .map entries => uptoBulkEntries entries + 1
  | .held _ => 1
def uptoBulkAll {H : Type} : List (DataW H) → Nat
  | [] => 0
  | d :: r => uptoBulk d + uptoBulkAll r
def uptoBulkEntries {H : Type} : List (Lit × DataW H) → Nat
  | [] => 0
  | x :: r => uptoBulkEntry x + uptoBulkEntries r
def uptoBulkEntry {H : Type} : Lit × DataW H → Nat
  | (.string bytes, d) => bytes.length + uptoBulk d + 1
  | (_, d) => uptoBulk d + 1
 end
def uptoSmall : (H : Type) → List (DataW H) → Bool := fun _ ds => decide (uptoBulkAll ds ≤ 1048576)
def OpenSpec.upto (s : _root_.Go.ChangeSpec) : _root_.Go.OpenSpec := { _root_.Go.OpenSpec.ofChange s with cond := some uptoSmall }

/-- 'plaitinglaw8.GuardAll', WHERE WHAT IT READS IS OF BULK AT MOST 1048576: true; the input reads as it did. -/
def guardAllUptoRow : OpenClaim := { program := "ytldokdfncoahoaa", sum := "7856e065fb0ee7389951fb28889cda832ce3b209d43173f561bcde1169a4bf51", func := "plaiting/plaitinglaw8.GuardAll", spec := "guardAll", unfollowed := true, recurses := true, apart := false, narrowed := true }
def GuardAllUptoSaid : Prop := guardAllUptoRow.holds Try.pinned (OpenSpec.upto guardAllSpec)

/-- 'plaitinglaw8.GuardWindow', WHERE WHAT IT READS IS OF BULK AT MOST 1048576: true; the input reads as it did. -/
def guardWindowUptoRow : OpenClaim := { program := "ytldokdfncoahoaa", sum := "7856e065fb0ee7389951fb28889cda832ce3b209d43173f561bcde1169a4bf51", func := "plaiting/plaitinglaw8.GuardWindow", spec := "guardWindow", unfollowed := true, recurses := true, apart := false, narrowed := true }
def GuardWindowUptoSaid : Prop := guardWindowUptoRow.holds Try.pinned (OpenSpec.upto guardWindowSpec)

/-- 'plaitinglaw8.GuardEnds', WHERE WHAT IT READS IS OF BULK AT MOST 1048576: true; the input reads as it did. -/
def guardEndsUptoRow : OpenClaim := { program := "ytldokdfncoahoaa", sum := "7856e065fb0ee7389951fb28889cda832ce3b209d43173f561bcde1169a4bf51", func := "plaiting/plaitinglaw8.GuardEnds", spec := "guardEnds", unfollowed := true, recurses := true, apart := false, narrowed := true }
def GuardEndsUptoSaid : Prop := guardEndsUptoRow.holds Try.pinned (OpenSpec.upto guardEndsSpec)

/-- 'plaitinglaw8.GuardSteps', WHERE WHAT IT READS IS OF BULK AT MOST 1048576: true; the input reads as it did. -/
def guardStepsUptoRow : OpenClaim := { program := "ytldokdfncoahoaa", sum := "7856e065fb0ee7389951fb28889cda832ce3b209d43173f561bcde1169a4bf51", func := "plaiting/plaitinglaw8.GuardSteps", spec := "guardSteps", unfollowed := true, recurses := true, apart := false, narrowed := true }
def GuardStepsUptoSaid : Prop := guardStepsUptoRow.holds Try.pinned (OpenSpec.upto guardStepsSpec)

end Rows
end Go.Proofs.Ytldokdfncoahoaa
