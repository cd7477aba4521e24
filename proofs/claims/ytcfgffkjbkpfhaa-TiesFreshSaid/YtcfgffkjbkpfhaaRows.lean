/-
  No cell of these rows narrows 'for every input' (looked for: loops, veiled, ifaces, maps, wideKeys, modest, calm, conditions, laid).
  DERIVED. THE GIVEN ROWS OF THIS SEAT. 5 by the template 'for every input the law returns true; each argument reads behind the call as it read before'; 0 by the template 'total and deterministic' (their statements: YtcfgffkjbkpfhaaTotals.lean).
  GIVEN WITH THE SEED: the statements are not yours to turn. If you find one false, say at which input.
  Laid BY PROGRAM, IN A SANDBOX (cutbox-rows.mjs): the forced cells as the released guide's own fill.sh prints them over the translation 2b4d3dd9b5e4ed1f… (all of the seat's roots in one cut). By AI agents, Wed Nov 11 2026. No macro, syntax, notation, axiom, sorry.
-/
import Derived.Test.YtcfgffkjbkpfhaaChecked
import GoSem.Claim
import GoSem.ClaimJoined
import GoSem.ClaimMapViews
import Derived.JoinedTies
import Derived.KernelRfl
namespace Go.Proofs.Ytcfgffkjbkpfhaa
/- THE CELL 'sum', in the pinned program and in every row, IS THE sha256 OF THE DUMP (.gsa) THAT YtcfgffkjbkpfhaaProg.lean LOADS. Nothing in Lean hashes anything: it is a label: what it is worth is what the hold of that sum in a sandbox is worth. -/
noncomputable def Try.pinned : Pinned := { name := "ytcfgffkjbkpfhaa", sum := "2b4d3dd9b5e4ed1f850ea3625eacf8fde6cb868f736ec923e0ae4ae83f3a7127", checked := Try.checked }
namespace Rows
def none {H : Type} : Left H := { results := [], args := [] }

/-- 'linkboylaw19.PickChooses': WHATEVER THE INPUT: true; the input reads as it did. -/
def pickChoosesSpec : ChangeSpec := { name := "pickChooses", fn := fun _ => fun
  | [d1, d2] => { results := [.lit (.bool true)], args := [d1, d2] }
  | _ => none }
def pickChoosesRow : OpenClaim := { program := "ytcfgffkjbkpfhaa", sum := "2b4d3dd9b5e4ed1f850ea3625eacf8fde6cb868f736ec923e0ae4ae83f3a7127", func := "linkboy/linkboylaw19.PickChooses", spec := "pickChooses", unfollowed := true, recurses := true, plainKeys := false, apart := false }
def PickChoosesSaid : Prop := pickChoosesRow.holds Try.pinned (OpenSpec.ofChange pickChoosesSpec)

/-- ITS FALSE NEIGHBOUR: 'it returns false'. Refute it at one input. -/
def pickChoosesWrong : ChangeSpec := { name := "pickChooses", fn := fun _ => fun
  | [d1, d2] => { results := [.lit (.bool false)], args := [d1, d2] }
  | _ => none }
def PickChoosesWrongFalsely : Prop := pickChoosesRow.holds Try.pinned (OpenSpec.ofChange pickChoosesWrong)

/-- 'linkboylaw19.PickRight': WHATEVER THE INPUT: true; the input reads as it did. -/
def pickRightSpec : ChangeSpec := { name := "pickRight", fn := fun _ => fun
  | [d1, d2] => { results := [.lit (.bool true)], args := [d1, d2] }
  | _ => none }
def pickRightRow : OpenClaim := { program := "ytcfgffkjbkpfhaa", sum := "2b4d3dd9b5e4ed1f850ea3625eacf8fde6cb868f736ec923e0ae4ae83f3a7127", func := "linkboy/linkboylaw19.PickRight", spec := "pickRight", unfollowed := true, recurses := true, plainKeys := false, apart := false }
def PickRightSaid : Prop := pickRightRow.holds Try.pinned (OpenSpec.ofChange pickRightSpec)

/-- ITS FALSE NEIGHBOUR: 'it returns false'. Refute it at one input. -/
def pickRightWrong : ChangeSpec := { name := "pickRight", fn := fun _ => fun
  | [d1, d2] => { results := [.lit (.bool false)], args := [d1, d2] }
  | _ => none }
def PickRightWrongFalsely : Prop := pickRightRow.holds Try.pinned (OpenSpec.ofChange pickRightWrong)

/-- 'linkboylaw31.TiesFresh': WHATEVER THE INPUT: true; the input reads as it did. -/
def tiesFreshSpec : ChangeSpec := { name := "tiesFresh", fn := fun _ => fun
  | [d1, d2, d3] => { results := [.lit (.bool true)], args := [d1, d2, d3] }
  | _ => none }
def tiesFreshRow : OpenClaim := { program := "ytcfgffkjbkpfhaa", sum := "2b4d3dd9b5e4ed1f850ea3625eacf8fde6cb868f736ec923e0ae4ae83f3a7127", func := "linkboy/linkboylaw31.TiesFresh", spec := "tiesFresh", inPlace := ["internal/bytealg.Compare"], unfollowed := true, recurses := true, plainKeys := false, apart := false }
def TiesFreshSaid : Prop := tiesFreshRow.holds Try.pinned (OpenSpec.ofChange tiesFreshSpec)

/-- ITS FALSE NEIGHBOUR: 'it returns false'. Refute it at one input. -/
def tiesFreshWrong : ChangeSpec := { name := "tiesFresh", fn := fun _ => fun
  | [d1, d2, d3] => { results := [.lit (.bool false)], args := [d1, d2, d3] }
  | _ => none }
def TiesFreshWrongFalsely : Prop := tiesFreshRow.holds Try.pinned (OpenSpec.ofChange tiesFreshWrong)

/-- 'linkboylaw18.HintsLeave': WHATEVER THE INPUT: true; the input reads as it did. -/
def hintsLeaveSpec : ChangeSpec := { name := "hintsLeave", fn := fun _ => fun
  | [d1, d2] => { results := [.lit (.bool true)], args := [d1, d2] }
  | _ => none }
def hintsLeaveRow : OpenClaim := { program := "ytcfgffkjbkpfhaa", sum := "2b4d3dd9b5e4ed1f850ea3625eacf8fde6cb868f736ec923e0ae4ae83f3a7127", func := "linkboy/linkboylaw18.HintsLeave", spec := "hintsLeave", unfollowed := true, recurses := true, plainKeys := false, apart := false }
def HintsLeaveSaid : Prop := hintsLeaveRow.holds Try.pinned (OpenSpec.ofChange hintsLeaveSpec)

/-- ITS FALSE NEIGHBOUR: 'it returns false'. Refute it at one input. -/
def hintsLeaveWrong : ChangeSpec := { name := "hintsLeave", fn := fun _ => fun
  | [d1, d2] => { results := [.lit (.bool false)], args := [d1, d2] }
  | _ => none }
def HintsLeaveWrongFalsely : Prop := hintsLeaveRow.holds Try.pinned (OpenSpec.ofChange hintsLeaveWrong)

/-- 'linkboylaw18.HintsFilter': WHATEVER THE INPUT: true; the input reads as it did. -/
def hintsFilterSpec : ChangeSpec := { name := "hintsFilter", fn := fun _ => fun
  | [d1, d2] => { results := [.lit (.bool true)], args := [d1, d2] }
  | _ => none }
def hintsFilterRow : OpenClaim := { program := "ytcfgffkjbkpfhaa", sum := "2b4d3dd9b5e4ed1f850ea3625eacf8fde6cb868f736ec923e0ae4ae83f3a7127", func := "linkboy/linkboylaw18.HintsFilter", spec := "hintsFilter", unfollowed := true, recurses := true, plainKeys := false, apart := false }
def HintsFilterSaid : Prop := hintsFilterRow.holds Try.pinned (OpenSpec.ofChange hintsFilterSpec)

/-- ITS FALSE NEIGHBOUR: 'it returns false'. Refute it at one input. -/
def hintsFilterWrong : ChangeSpec := { name := "hintsFilter", fn := fun _ => fun
  | [d1, d2] => { results := [.lit (.bool false)], args := [d1, d2] }
  | _ => none }
def HintsFilterWrongFalsely : Prop := hintsFilterRow.holds Try.pinned (OpenSpec.ofChange hintsFilterWrong)

/- THE SECOND FORM. 'bulk': how many values and letters a reading holds, each counted each time it is reached (what is shared counts as often as it is met; a slice's spare places count too). A statement '..UptoSaid' is the law's where the arguments, and the package variables that the reading takes, are together of bulk at most 1048576: NARROWER than '..Said'. Prove '..Said' where nothing that the law and all that it calls make is longer than what came in: it says more and counts as full. Else prove '..UptoSaid'. A law counts once. -/
mutual
def uptoBulk {H : Type} : DataW H → Nat
  | .lit (.string bytes) => bytes.length + 1
  | .lit _ => 1
  | .nil => 1
  | .ptr d => uptoBulk d + 1
  | .slice elems spare => uptoBulkAll elems + uptoBulkAll spare + 1
  | .agg parts => uptoBulkAll parts + 1
  | .iface _ d => uptoBulk d + 1
  | .map entries => uptoBulkEntries entries + 1
  | .held _ => 1
def uptoBulkAll {H : Type} : List (DataW H) → Nat
  | [] => 0
  | d :: r => uptoBulk d + uptoBulkAll r
def uptoBulkEntries {H : Type} : List (Lit × DataW H) → Nat
  | [] => 0
  | x :: r => uptoBulkEntry x + uptoBulkEntries r
def uptoBulkEntry {H : Type} : Lit × DataW H → Nat
  | (.string bytes, d) => bytes.length + uptoBulk d + 1
  | (_, d) => uptoBulk d + 1
 end
def uptoSmall : (H : Type) → List (DataW H) → Bool := fun _ ds => decide (uptoBulkAll ds ≤ 1048576)
def OpenSpec.upto (s : _root_.Go.ChangeSpec) : _root_.Go.OpenSpec := { _root_.Go.OpenSpec.ofChange s with cond := some uptoSmall }

/-- 'linkboylaw19.PickChooses', WHERE WHAT IT READS IS OF BULK AT MOST 1048576: true; the input reads as it did. -/
def pickChoosesUptoRow : OpenClaim := { program := "ytcfgffkjbkpfhaa", sum := "2b4d3dd9b5e4ed1f850ea3625eacf8fde6cb868f736ec923e0ae4ae83f3a7127", func := "linkboy/linkboylaw19.PickChooses", spec := "pickChooses", unfollowed := true, recurses := true, plainKeys := false, apart := false, narrowed := true }
def PickChoosesUptoSaid : Prop := pickChoosesUptoRow.holds Try.pinned (OpenSpec.upto pickChoosesSpec)

/-- 'linkboylaw19.PickRight', WHERE WHAT IT READS IS OF BULK AT MOST 1048576: true; the input reads as it did. -/
def pickRightUptoRow : OpenClaim := { program := "ytcfgffkjbkpfhaa", sum := "2b4d3dd9b5e4ed1f850ea3625eacf8fde6cb868f736ec923e0ae4ae83f3a7127", func := "linkboy/linkboylaw19.PickRight", spec := "pickRight", unfollowed := true, recurses := true, plainKeys := false, apart := false, narrowed := true }
def PickRightUptoSaid : Prop := pickRightUptoRow.holds Try.pinned (OpenSpec.upto pickRightSpec)

/-- 'linkboylaw31.TiesFresh', WHERE WHAT IT READS IS OF BULK AT MOST 1048576: true; the input reads as it did. -/
def tiesFreshUptoRow : OpenClaim := { program := "ytcfgffkjbkpfhaa", sum := "2b4d3dd9b5e4ed1f850ea3625eacf8fde6cb868f736ec923e0ae4ae83f3a7127", func := "linkboy/linkboylaw31.TiesFresh", spec := "tiesFresh", inPlace := ["internal/bytealg.Compare"], unfollowed := true, recurses := true, plainKeys := false, apart := false, narrowed := true }
def TiesFreshUptoSaid : Prop := tiesFreshUptoRow.holds Try.pinned (OpenSpec.upto tiesFreshSpec)

/-- 'linkboylaw18.HintsLeave', WHERE WHAT IT READS IS OF BULK AT MOST 1048576: true; the input reads as it did. -/
def hintsLeaveUptoRow : OpenClaim := { program := "ytcfgffkjbkpfhaa", sum := "2b4d3dd9b5e4ed1f850ea3625eacf8fde6cb868f736ec923e0ae4ae83f3a7127", func := "linkboy/linkboylaw18.HintsLeave", spec := "hintsLeave", unfollowed := true, recurses := true, plainKeys := false, apart := false, narrowed := true }
def HintsLeaveUptoSaid : Prop := hintsLeaveUptoRow.holds Try.pinned (OpenSpec.upto hintsLeaveSpec)

/-- 'linkboylaw18.HintsFilter', WHERE WHAT IT READS IS OF BULK AT MOST 1048576: true; the input reads as it did. -/
def hintsFilterUptoRow : OpenClaim := { program := "ytcfgffkjbkpfhaa", sum := "2b4d3dd9b5e4ed1f850ea3625eacf8fde6cb868f736ec923e0ae4ae83f3a7127", func := "linkboy/linkboylaw18.HintsFilter", spec := "hintsFilter", unfollowed := true, recurses := true, plainKeys := false, apart := false, narrowed := true }
def HintsFilterUptoSaid : Prop := hintsFilterUptoRow.holds Try.pinned (OpenSpec.upto hintsFilterSpec)

end Rows
end Go.Proofs.Ytcfgffkjbkpfhaa
