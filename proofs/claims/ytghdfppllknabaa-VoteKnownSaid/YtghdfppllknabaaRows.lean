/-
  No cell of these rows narrows 'for every input' (looked for: loops, veiled, ifaces, maps, wideKeys, modest, calm, conditions, laid).
  DERIVED. THE GIVEN ROWS OF THIS SEAT. 6 by the template 'for every input the law returns true; each argument reads behind the call as it read before'; 0 by the template 'total and deterministic' (their statements: YtghdfppllknabaaTotals.lean).
  GIVEN WITH THE SEED: the statements are not yours to turn. If you find one false, say at which input.
  Laid BY PROGRAM, IN A SANDBOX (cutbox-rows.mjs): the forced cells as the released guide's own fill.sh prints them over the translation 1d462b3227b5f91e… (all of the seat's roots in one cut). By AI agents, Wed Nov 11 2026. No macro, syntax, notation, axiom, sorry.
-/
import Derived.Test.YtghdfppllknabaaChecked
import GoSem.Claim
import GoSem.ClaimJoined
import GoSem.ClaimMapViews
import Derived.JoinedTies
import Derived.KernelRfl
namespace Go.Proofs.Ytghdfppllknabaa
/- THE CELL 'sum', in the pinned program and in every row, IS THE sha256 OF THE DUMP (.gsa) THAT YtghdfppllknabaaProg.lean LOADS. Nothing in Lean hashes anything: it is a label: what it is worth is what the hold of that sum in a sandbox is worth. -/
noncomputable def Try.pinned : Pinned := { name := "ytghdfppllknabaa", sum := "1d462b3227b5f91eca9584464b2ab408ff6f8b08e24aaf5207bdd8a60b52144e", checked := Try.checked }
namespace Rows
def none {H : Type} : Left H := { results := [], args := [] }

/-- 'plaitinglaw15.VoteAll': WHATEVER THE INPUT: true; the input reads as it did. -/
def voteAllSpec : ChangeSpec := { name := "voteAll", fn := fun _ => fun
  | [d1, d2] => { results := [.lit (.bool true)], args := [d1, d2] }
  | _ => none }
def voteAllRow : OpenClaim := { program := "ytghdfppllknabaa", sum := "1d462b3227b5f91eca9584464b2ab408ff6f8b08e24aaf5207bdd8a60b52144e", func := "plaiting/plaitinglaw15.VoteAll", spec := "voteAll", plainKeys := false, apart := false }
def VoteAllSaid : Prop := voteAllRow.holds Try.pinned (OpenSpec.ofChange voteAllSpec)

/-- ITS FALSE NEIGHBOUR: 'it returns false'. Refute it at one input. -/
def voteAllWrong : ChangeSpec := { name := "voteAll", fn := fun _ => fun
  | [d1, d2] => { results := [.lit (.bool false)], args := [d1, d2] }
  | _ => none }
def VoteAllWrongFalsely : Prop := voteAllRow.holds Try.pinned (OpenSpec.ofChange voteAllWrong)

/-- 'plaitinglaw15.VoteMost': WHATEVER THE INPUT: true; the input reads as it did. -/
def voteMostSpec : ChangeSpec := { name := "voteMost", fn := fun _ => fun
  | [d1, d2, d3, d4] => { results := [.lit (.bool true)], args := [d1, d2, d3, d4] }
  | _ => none }
def voteMostRow : OpenClaim := { program := "ytghdfppllknabaa", sum := "1d462b3227b5f91eca9584464b2ab408ff6f8b08e24aaf5207bdd8a60b52144e", func := "plaiting/plaitinglaw15.VoteMost", spec := "voteMost", plainKeys := false, apart := false }
def VoteMostSaid : Prop := voteMostRow.holds Try.pinned (OpenSpec.ofChange voteMostSpec)

/-- ITS FALSE NEIGHBOUR: 'it returns false'. Refute it at one input. -/
def voteMostWrong : ChangeSpec := { name := "voteMost", fn := fun _ => fun
  | [d1, d2, d3, d4] => { results := [.lit (.bool false)], args := [d1, d2, d3, d4] }
  | _ => none }
def VoteMostWrongFalsely : Prop := voteMostRow.holds Try.pinned (OpenSpec.ofChange voteMostWrong)

/-- 'plaitinglaw15.VoteOne': WHATEVER THE INPUT: true; the input reads as it did. -/
def voteOneSpec : ChangeSpec := { name := "voteOne", fn := fun _ => fun
  | [d1, d2, d3, d4, d5] => { results := [.lit (.bool true)], args := [d1, d2, d3, d4, d5] }
  | _ => none }
def voteOneRow : OpenClaim := { program := "ytghdfppllknabaa", sum := "1d462b3227b5f91eca9584464b2ab408ff6f8b08e24aaf5207bdd8a60b52144e", func := "plaiting/plaitinglaw15.VoteOne", spec := "voteOne", plainKeys := false, apart := false }
def VoteOneSaid : Prop := voteOneRow.holds Try.pinned (OpenSpec.ofChange voteOneSpec)

/-- ITS FALSE NEIGHBOUR: 'it returns false'. Refute it at one input. -/
def voteOneWrong : ChangeSpec := { name := "voteOne", fn := fun _ => fun
  | [d1, d2, d3, d4, d5] => { results := [.lit (.bool false)], args := [d1, d2, d3, d4, d5] }
  | _ => none }
def VoteOneWrongFalsely : Prop := voteOneRow.holds Try.pinned (OpenSpec.ofChange voteOneWrong)

/-- 'plaitinglaw15.VoteKnown': WHATEVER THE INPUT: true; the input reads as it did. -/
def voteKnownSpec : ChangeSpec := { name := "voteKnown", fn := fun _ => fun
  | [d] => { results := [.lit (.bool true)], args := [d] }
  | _ => none }
def voteKnownRow : OpenClaim := { program := "ytghdfppllknabaa", sum := "1d462b3227b5f91eca9584464b2ab408ff6f8b08e24aaf5207bdd8a60b52144e", func := "plaiting/plaitinglaw15.VoteKnown", spec := "voteKnown", plainKeys := false, apart := false }
def VoteKnownSaid : Prop := voteKnownRow.holds Try.pinned (OpenSpec.ofChange voteKnownSpec)

/-- ITS FALSE NEIGHBOUR: 'it returns false'. Refute it at one input. -/
def voteKnownWrong : ChangeSpec := { name := "voteKnown", fn := fun _ => fun
  | [d] => { results := [.lit (.bool false)], args := [d] }
  | _ => none }
def VoteKnownWrongFalsely : Prop := voteKnownRow.holds Try.pinned (OpenSpec.ofChange voteKnownWrong)

/-- 'plaitinglaw15.VoteGrows': WHATEVER THE INPUT: true; the input reads as it did. -/
def voteGrowsSpec : ChangeSpec := { name := "voteGrows", fn := fun _ => fun
  | [d] => { results := [.lit (.bool true)], args := [d] }
  | _ => none }
def voteGrowsRow : OpenClaim := { program := "ytghdfppllknabaa", sum := "1d462b3227b5f91eca9584464b2ab408ff6f8b08e24aaf5207bdd8a60b52144e", func := "plaiting/plaitinglaw15.VoteGrows", spec := "voteGrows", plainKeys := false, apart := false }
def VoteGrowsSaid : Prop := voteGrowsRow.holds Try.pinned (OpenSpec.ofChange voteGrowsSpec)

/-- ITS FALSE NEIGHBOUR: 'it returns false'. Refute it at one input. -/
def voteGrowsWrong : ChangeSpec := { name := "voteGrows", fn := fun _ => fun
  | [d] => { results := [.lit (.bool false)], args := [d] }
  | _ => none }
def VoteGrowsWrongFalsely : Prop := voteGrowsRow.holds Try.pinned (OpenSpec.ofChange voteGrowsWrong)

/-- 'plaitinglaw15.VoteTwo': WHATEVER THE INPUT: true; the input reads as it did. -/
def voteTwoSpec : ChangeSpec := { name := "voteTwo", fn := fun _ => fun
  | [d1, d2, d3, d4, d5] => { results := [.lit (.bool true)], args := [d1, d2, d3, d4, d5] }
  | _ => none }
def voteTwoRow : OpenClaim := { program := "ytghdfppllknabaa", sum := "1d462b3227b5f91eca9584464b2ab408ff6f8b08e24aaf5207bdd8a60b52144e", func := "plaiting/plaitinglaw15.VoteTwo", spec := "voteTwo", plainKeys := false, apart := false }
def VoteTwoSaid : Prop := voteTwoRow.holds Try.pinned (OpenSpec.ofChange voteTwoSpec)

/-- ITS FALSE NEIGHBOUR: 'it returns false'. Refute it at one input. -/
def voteTwoWrong : ChangeSpec := { name := "voteTwo", fn := fun _ => fun
  | [d1, d2, d3, d4, d5] => { results := [.lit (.bool false)], args := [d1, d2, d3, d4, d5] }
  | _ => none }
def VoteTwoWrongFalsely : Prop := voteTwoRow.holds Try.pinned (OpenSpec.ofChange voteTwoWrong)

/- THE SECOND FORM. 'bulk': how many values and letters a reading holds, each counted each time it is reached (what is shared counts as often as it is met; a slice's spare places count too). A statement '..UptoSaid' is the law's where the arguments, and the package variables that the reading takes, are together of bulk at most 1048576: NARROWER than '..Said'. Prove '..Said' where nothing that the law and all that it calls make is longer than what came in: it says more and counts as full. Else prove '..UptoSaid'. A law counts once. -/
mutual
def uptoBulk {H : Type} : DataW H → Nat
  | .lit (.string bytes) => bytes.length + 1
  | .lit _ => 1
  | .nil => 1
  | .ptr d => uptoBulk d + 1
  | .slice elems spare => uptoBulkAll elems + uptoBulkAll spare + 1
  | .agg parts => uptoBulkAll parts + 1
  | .iface _ d => uptoBulk d + 1
  | .map entries => uptoBulkEntries entries + 1
  | .held _ => 1
def uptoBulkAll {H : Type} : List (DataW H) → Nat
  | [] => 0
  | d :: r => uptoBulk d + uptoBulkAll r
def uptoBulkEntries {H : Type} : List (Lit × DataW H) → Nat
  | [] => 0
  | x :: r => uptoBulkEntry x + uptoBulkEntries r
def uptoBulkEntry {H : Type} : Lit × DataW H → Nat
  | (.string bytes, d) => bytes.length + uptoBulk d + 1
  | (_, d) => uptoBulk d + 1
 end
def uptoSmall : (H : Type) → List (DataW H) → Bool := fun _ ds => decide (uptoBulkAll ds ≤ 1048576)
def OpenSpec.upto (s : _root_.Go.ChangeSpec) : _root_.Go.OpenSpec := { _root_.Go.OpenSpec.ofChange s with cond := some uptoSmall }

/-- 'plaitinglaw15.VoteAll', WHERE WHAT IT READS IS OF BULK AT MOST 1048576: true; the input reads as it did. -/
def voteAllUptoRow : OpenClaim := { program := "ytghdfppllknabaa", sum := "1d462b3227b5f91eca9584464b2ab408ff6f8b08e24aaf5207bdd8a60b52144e", func := "plaiting/plaitinglaw15.VoteAll", spec := "voteAll", plainKeys := false, apart := false, narrowed := true }
def VoteAllUptoSaid : Prop := voteAllUptoRow.holds Try.pinned (OpenSpec.upto voteAllSpec)

/-- 'plaitinglaw15.VoteMost', WHERE WHAT IT READS IS OF BULK AT MOST 1048576: true; the input reads as it did. -/
def voteMostUptoRow : OpenClaim := { program := "ytghdfppllknabaa", sum := "1d462b3227b5f91eca9584464b2ab408ff6f8b08e24aaf5207bdd8a60b52144e", func := "plaiting/plaitinglaw15.VoteMost", spec := "voteMost", plainKeys := false, apart := false, narrowed := true }
def VoteMostUptoSaid : Prop := voteMostUptoRow.holds Try.pinned (OpenSpec.upto voteMostSpec)

/-- 'plaitinglaw15.VoteOne', WHERE WHAT IT READS IS OF BULK AT MOST 1048576: true; the input reads as it did. -/
def voteOneUptoRow : OpenClaim := { program := "ytghdfppllknabaa", sum := "1d462b3227b5f91eca9584464b2ab408ff6f8b08e24aaf5207bdd8a60b52144e", func := "plaiting/plaitinglaw15.VoteOne", spec := "voteOne", plainKeys := false, apart := false, narrowed := true }
def VoteOneUptoSaid : Prop := voteOneUptoRow.holds Try.pinned (OpenSpec.upto voteOneSpec)

/-- 'plaitinglaw15.VoteKnown', WHERE WHAT IT READS IS OF BULK AT MOST 1048576: true; the input reads as it did. -/
def voteKnownUptoRow : OpenClaim := { program := "ytghdfppllknabaa", sum := "1d462b3227b5f91eca9584464b2ab408ff6f8b08e24aaf5207bdd8a60b52144e", func := "plaiting/plaitinglaw15.VoteKnown", spec := "voteKnown", plainKeys := false, apart := false, narrowed := true }
def VoteKnownUptoSaid : Prop := voteKnownUptoRow.holds Try.pinned (OpenSpec.upto voteKnownSpec)

/-- 'plaitinglaw15.VoteGrows', WHERE WHAT IT READS IS OF BULK AT MOST 1048576: true; the input reads as it did. -/
def voteGrowsUptoRow : OpenClaim := { program := "ytghdfppllknabaa", sum := "1d462b3227b5f91eca9584464b2ab408ff6f8b08e24aaf5207bdd8a60b52144e", func := "plaiting/plaitinglaw15.VoteGrows", spec := "voteGrows", plainKeys := false, apart := false, narrowed := true }
def VoteGrowsUptoSaid : Prop := voteGrowsUptoRow.holds Try.pinned (OpenSpec.upto voteGrowsSpec)

/-- 'plaitinglaw15.VoteTwo', WHERE WHAT IT READS IS OF BULK AT MOST 1048576: true; the input reads as it did. -/
def voteTwoUptoRow : OpenClaim := { program := "ytghdfppllknabaa", sum := "1d462b3227b5f91eca9584464b2ab408ff6f8b08e24aaf5207bdd8a60b52144e", func := "plaiting/plaitinglaw15.VoteTwo", spec := "voteTwo", plainKeys := false, apart := false, narrowed := true }
def VoteTwoUptoSaid : Prop := voteTwoUptoRow.holds Try.pinned (OpenSpec.upto voteTwoSpec)

end Rows
end Go.Proofs.Ytghdfppllknabaa
