/-
  No cell of these rows narrows 'for every input' (looked for: loops, veiled, ifaces, maps, wideKeys, modest, calm, conditions, laid).
  DERIVED. THE GIVEN ROWS OF THIS SEAT. 8 by the template 'for every input the law returns true; each argument reads behind the call as it read before'; 0 by the template 'total and deterministic' (their statements: YtgldlpfhebncgaaTotals.lean).
  GIVEN WITH THE SEED: the statements are not yours to turn. If you find one false, say at which input.
  Laid BY PROGRAM, IN A SANDBOX (cutbox-rows.mjs): the forced cells as the released guide's own fill.sh prints them over the translation b4d1e171a202de8d… (all of the seat's roots in one cut). By AI agents, Wed Nov 11 2026. No macro, syntax, notation, axiom, sorry.
-/
import Derived.Test.YtgldlpfhebncgaaChecked
import GoSem.Claim
import GoSem.ClaimJoined
import GoSem.ClaimMapViews
import Derived.JoinedTies
import Derived.KernelRfl
namespace Go.Proofs.Ytgldlpfhebncgaa
/- THE CELL 'sum', in the pinned program and in every row, IS THE sha256 OF THE DUMP (.gsa) THAT YtgldlpfhebncgaaProg.lean LOADS. Nothing in Lean hashes anything: it is a label: what it is worth is what the hold of that sum in a sandbox is worth. -/
noncomputable def Try.pinned : Pinned := { name := "ytgldlpfhebncgaa", sum := "b4d1e171a202de8d4f117fceffed9027a57f23255b3a4de9b1cc726259e5d60d", checked := Try.checked }
namespace Rows
def none {H : Type} : Left H := { results := [], args := [] }

/-- 'linkboylaw07.HashUnlike': WHATEVER THE INPUT: true; the input reads as it did. -/
def hashUnlikeSpec : ChangeSpec := { name := "hashUnlike", fn := fun _ => fun
  | [d1, d2] => { results := [.lit (.bool true)], args := [d1, d2] }
  | _ => none }
def hashUnlikeRow : OpenClaim := { program := "ytgldlpfhebncgaa", sum := "b4d1e171a202de8d4f117fceffed9027a57f23255b3a4de9b1cc726259e5d60d", func := "linkboy/linkboylaw07.HashUnlike", spec := "hashUnlike", apart := false }
def HashUnlikeSaid : Prop := hashUnlikeRow.holds Try.pinned (OpenSpec.ofChange hashUnlikeSpec)

/-- ITS FALSE NEIGHBOUR: 'it returns false'. Refute it at one input. -/
def hashUnlikeWrong : ChangeSpec := { name := "hashUnlike", fn := fun _ => fun
  | [d1, d2] => { results := [.lit (.bool false)], args := [d1, d2] }
  | _ => none }
def HashUnlikeWrongFalsely : Prop := hashUnlikeRow.holds Try.pinned (OpenSpec.ofChange hashUnlikeWrong)

/-- 'linkboylaw07.HashBytes': WHATEVER THE INPUT: true; the input reads as it did. -/
def hashBytesSpec : ChangeSpec := { name := "hashBytes", fn := fun _ => fun
  | [d1, d2, d3] => { results := [.lit (.bool true)], args := [d1, d2, d3] }
  | _ => none }
def hashBytesRow : OpenClaim := { program := "ytgldlpfhebncgaa", sum := "b4d1e171a202de8d4f117fceffed9027a57f23255b3a4de9b1cc726259e5d60d", func := "linkboy/linkboylaw07.HashBytes", spec := "hashBytes", apart := false }
def HashBytesSaid : Prop := hashBytesRow.holds Try.pinned (OpenSpec.ofChange hashBytesSpec)

/-- ITS FALSE NEIGHBOUR: 'it returns false'. Refute it at one input. -/
def hashBytesWrong : ChangeSpec := { name := "hashBytes", fn := fun _ => fun
  | [d1, d2, d3] => { results := [.lit (.bool false)], args := [d1, d2, d3] }
  | _ => none }
def HashBytesWrongFalsely : Prop := hashBytesRow.holds Try.pinned (OpenSpec.ofChange hashBytesWrong)

/-- 'linkboylaw07.HashMixes': WHATEVER THE INPUT: true; the input reads as it did. -/
def hashMixesSpec : ChangeSpec := { name := "hashMixes", fn := fun _ => fun
  | [d] => { results := [.lit (.bool true)], args := [d] }
  | _ => none }
def hashMixesRow : OpenClaim := { program := "ytgldlpfhebncgaa", sum := "b4d1e171a202de8d4f117fceffed9027a57f23255b3a4de9b1cc726259e5d60d", func := "linkboy/linkboylaw07.HashMixes", spec := "hashMixes", apart := false }
def HashMixesSaid : Prop := hashMixesRow.holds Try.pinned (OpenSpec.ofChange hashMixesSpec)

/-- ITS FALSE NEIGHBOUR: 'it returns false'. Refute it at one input. -/
def hashMixesWrong : ChangeSpec := { name := "hashMixes", fn := fun _ => fun
  | [d] => { results := [.lit (.bool false)], args := [d] }
  | _ => none }
def HashMixesWrongFalsely : Prop := hashMixesRow.holds Try.pinned (OpenSpec.ofChange hashMixesWrong)

/-- 'linkboylaw07.HashTuples': WHATEVER THE INPUT: true; the input reads as it did. -/
def hashTuplesSpec : ChangeSpec := { name := "hashTuples", fn := fun _ => fun
  | [d1, d2] => { results := [.lit (.bool true)], args := [d1, d2] }
  | _ => none }
def hashTuplesRow : OpenClaim := { program := "ytgldlpfhebncgaa", sum := "b4d1e171a202de8d4f117fceffed9027a57f23255b3a4de9b1cc726259e5d60d", func := "linkboy/linkboylaw07.HashTuples", spec := "hashTuples", apart := false }
def HashTuplesSaid : Prop := hashTuplesRow.holds Try.pinned (OpenSpec.ofChange hashTuplesSpec)

/-- ITS FALSE NEIGHBOUR: 'it returns false'. Refute it at one input. -/
def hashTuplesWrong : ChangeSpec := { name := "hashTuples", fn := fun _ => fun
  | [d1, d2] => { results := [.lit (.bool false)], args := [d1, d2] }
  | _ => none }
def HashTuplesWrongFalsely : Prop := hashTuplesRow.holds Try.pinned (OpenSpec.ofChange hashTuplesWrong)

/-- 'linkboylaw06.SumsCheck': WHATEVER THE INPUT: true; the input reads as it did. -/
def sumsCheckSpec : ChangeSpec := { name := "sumsCheck", fn := fun _ => fun
  | [d1, d2] => { results := [.lit (.bool true)], args := [d1, d2] }
  | _ => none }
def sumsCheckRow : OpenClaim := { program := "ytgldlpfhebncgaa", sum := "b4d1e171a202de8d4f117fceffed9027a57f23255b3a4de9b1cc726259e5d60d", func := "linkboy/linkboylaw06.SumsCheck", spec := "sumsCheck", unfollowed := true, recurses := true, apart := false }
def SumsCheckSaid : Prop := sumsCheckRow.holds Try.pinned (OpenSpec.ofChange sumsCheckSpec)

/-- ITS FALSE NEIGHBOUR: 'it returns false'. Refute it at one input. -/
def sumsCheckWrong : ChangeSpec := { name := "sumsCheck", fn := fun _ => fun
  | [d1, d2] => { results := [.lit (.bool false)], args := [d1, d2] }
  | _ => none }
def SumsCheckWrongFalsely : Prop := sumsCheckRow.holds Try.pinned (OpenSpec.ofChange sumsCheckWrong)

/-- 'linkboylaw06.SumsChange': WHATEVER THE INPUT: true; the input reads as it did. -/
def sumsChangeSpec : ChangeSpec := { name := "sumsChange", fn := fun _ => fun
  | [d1, d2, d3] => { results := [.lit (.bool true)], args := [d1, d2, d3] }
  | _ => none }
def sumsChangeRow : OpenClaim := { program := "ytgldlpfhebncgaa", sum := "b4d1e171a202de8d4f117fceffed9027a57f23255b3a4de9b1cc726259e5d60d", func := "linkboy/linkboylaw06.SumsChange", spec := "sumsChange", unfollowed := true, recurses := true, apart := false }
def SumsChangeSaid : Prop := sumsChangeRow.holds Try.pinned (OpenSpec.ofChange sumsChangeSpec)

/-- ITS FALSE NEIGHBOUR: 'it returns false'. Refute it at one input. -/
def sumsChangeWrong : ChangeSpec := { name := "sumsChange", fn := fun _ => fun
  | [d1, d2, d3] => { results := [.lit (.bool false)], args := [d1, d2, d3] }
  | _ => none }
def SumsChangeWrongFalsely : Prop := sumsChangeRow.holds Try.pinned (OpenSpec.ofChange sumsChangeWrong)

/-- 'linkboylaw06.SumsChanged': WHATEVER THE INPUT: true; the input reads as it did. -/
def sumsChangedSpec : ChangeSpec := { name := "sumsChanged", fn := fun _ => fun
  | [d1, d2, d3] => { results := [.lit (.bool true)], args := [d1, d2, d3] }
  | _ => none }
def sumsChangedRow : OpenClaim := { program := "ytgldlpfhebncgaa", sum := "b4d1e171a202de8d4f117fceffed9027a57f23255b3a4de9b1cc726259e5d60d", func := "linkboy/linkboylaw06.SumsChanged", spec := "sumsChanged", unfollowed := true, recurses := true, apart := false }
def SumsChangedSaid : Prop := sumsChangedRow.holds Try.pinned (OpenSpec.ofChange sumsChangedSpec)

/-- ITS FALSE NEIGHBOUR: 'it returns false'. Refute it at one input. -/
def sumsChangedWrong : ChangeSpec := { name := "sumsChanged", fn := fun _ => fun
  | [d1, d2, d3] => { results := [.lit (.bool false)], args := [d1, d2, d3] }
  | _ => none }
def SumsChangedWrongFalsely : Prop := sumsChangedRow.holds Try.pinned (OpenSpec.ofChange sumsChangedWrong)

/-- 'linkboylaw06.SumsPseudo': WHATEVER THE INPUT: true; the input reads as it did. -/
def sumsPseudoSpec : ChangeSpec := { name := "sumsPseudo", fn := fun _ => fun
  | [d1, d2, d3] => { results := [.lit (.bool true)], args := [d1, d2, d3] }
  | _ => none }
def sumsPseudoRow : OpenClaim := { program := "ytgldlpfhebncgaa", sum := "b4d1e171a202de8d4f117fceffed9027a57f23255b3a4de9b1cc726259e5d60d", func := "linkboy/linkboylaw06.SumsPseudo", spec := "sumsPseudo", unfollowed := true, recurses := true, apart := false }
def SumsPseudoSaid : Prop := sumsPseudoRow.holds Try.pinned (OpenSpec.ofChange sumsPseudoSpec)

/-- ITS FALSE NEIGHBOUR: 'it returns false'. Refute it at one input. -/
def sumsPseudoWrong : ChangeSpec := { name := "sumsPseudo", fn := fun _ => fun
  | [d1, d2, d3] => { results := [.lit (.bool false)], args := [d1, d2, d3] }
  | _ => none }
def SumsPseudoWrongFalsely : Prop := sumsPseudoRow.holds Try.pinned (OpenSpec.ofChange sumsPseudoWrong)

/- THE SECOND FORM. 'bulk': how many values and letters a reading holds, each counted each time it is reached (what is shared counts as often as it is met; a slice's spare places count too). A statement '..UptoSaid' is the law's where the arguments, and the package variables that the reading takes, are together of bulk at most 1048576: NARROWER than '..Said'. Prove '..Said' where nothing that the law and all that it calls make is longer than what came in: it says more and counts as full. Else prove '..UptoSaid'. A law counts once. -/
mutual
def uptoBulk {H : Type} : DataW H → Nat
  | .lit (.string bytes) => bytes.length + 1
  | .lit _ => 1
  | .nil => 1
  | .ptr d => uptoBulk d + 1
  | .slice elems spare => uptoBulkAll elems + uptoBulkAll spare + 1
  | .agg parts => uptoBulkAll parts + 1
  | .iface _ d => uptoBulk d + 1
  | .map entries => uptoBulkEntries entries + 1
  | .held _ => 1
def uptoBulkAll {H : Type} : List (DataW H) → Nat
  | [] => 0
  | d :: r => uptoBulk d + uptoBulkAll r
def uptoBulkEntries {H : Type} : List (Lit × DataW H) → Nat
  | [] => 0
  | x :: r => uptoBulkEntry x + uptoBulkEntries r
def uptoBulkEntry {H : Type} : Lit × DataW H → Nat
  | (.string bytes, d) => bytes.length + uptoBulk d + 1
  | (_, d) => uptoBulk d + 1
 end
def uptoSmall : (H : Type) → List (DataW H) → Bool := fun _ ds => decide (uptoBulkAll ds ≤ 1048576)
def OpenSpec.upto (s : _root_.Go.ChangeSpec) : _root_.Go.OpenSpec := { _root_.Go.OpenSpec.ofChange s with cond := some uptoSmall }

/-- 'linkboylaw07.HashUnlike', WHERE WHAT IT READS IS OF BULK AT MOST 1048576: true; the input reads as it did. -/
def hashUnlikeUptoRow : OpenClaim := { program := "ytgldlpfhebncgaa", sum := "b4d1e171a202de8d4f117fceffed9027a57f23255b3a4de9b1cc726259e5d60d", func := "linkboy/linkboylaw07.HashUnlike", spec := "hashUnlike", apart := false, narrowed := true }
def HashUnlikeUptoSaid : Prop := hashUnlikeUptoRow.holds Try.pinned (OpenSpec.upto hashUnlikeSpec)

/-- 'linkboylaw07.HashBytes', WHERE WHAT IT READS IS OF BULK AT MOST 1048576: true; the input reads as it did. -/
def hashBytesUptoRow : OpenClaim := { program := "ytgldlpfhebncgaa", sum := "b4d1e171a202de8d4f117fceffed9027a57f23255b3a4de9b1cc726259e5d60d", func := "linkboy/linkboylaw07.HashBytes", spec := "hashBytes", apart := false, narrowed := true }
def HashBytesUptoSaid : Prop := hashBytesUptoRow.holds Try.pinned (OpenSpec.upto hashBytesSpec)

/-- 'linkboylaw07.HashMixes', WHERE WHAT IT READS IS OF BULK AT MOST 1048576: true; the input reads as it did. -/
def hashMixesUptoRow : OpenClaim := { program := "ytgldlpfhebncgaa", sum := "b4d1e171a202de8d4f117fceffed9027a57f23255b3a4de9b1cc726259e5d60d", func := "linkboy/linkboylaw07.HashMixes", spec := "hashMixes", apart := false, narrowed := true }
def HashMixesUptoSaid : Prop := hashMixesUptoRow.holds Try.pinned (OpenSpec.upto hashMixesSpec)

/-- 'linkboylaw07.HashTuples', WHERE WHAT IT READS IS OF BULK AT MOST 1048576: true; the input reads as it did. -/
def hashTuplesUptoRow : OpenClaim := { program := "ytgldlpfhebncgaa", sum := "b4d1e171a202de8d4f117fceffed9027a57f23255b3a4de9b1cc726259e5d60d", func := "linkboy/linkboylaw07.HashTuples", spec := "hashTuples", apart := false, narrowed := true }
def HashTuplesUptoSaid : Prop := hashTuplesUptoRow.holds Try.pinned (OpenSpec.upto hashTuplesSpec)

/-- 'linkboylaw06.SumsCheck', WHERE WHAT IT READS IS OF BULK AT MOST 1048576: true; the input reads as it did. -/
def sumsCheckUptoRow : OpenClaim := { program := "ytgldlpfhebncgaa", sum := "b4d1e171a202de8d4f117fceffed9027a57f23255b3a4de9b1cc726259e5d60d", func := "linkboy/linkboylaw06.SumsCheck", spec := "sumsCheck", unfollowed := true, recurses := true, apart := false, narrowed := true }
def SumsCheckUptoSaid : Prop := sumsCheckUptoRow.holds Try.pinned (OpenSpec.upto sumsCheckSpec)

/-- 'linkboylaw06.SumsChange', WHERE WHAT IT READS IS OF BULK AT MOST 1048576: true; the input reads as it did. -/
def sumsChangeUptoRow : OpenClaim := { program := "ytgldlpfhebncgaa", sum := "b4d1e171a202de8d4f117fceffed9027a57f23255b3a4de9b1cc726259e5d60d", func := "linkboy/linkboylaw06.SumsChange", spec := "sumsChange", unfollowed := true, recurses := true, apart := false, narrowed := true }
def SumsChangeUptoSaid : Prop := sumsChangeUptoRow.holds Try.pinned (OpenSpec.upto sumsChangeSpec)

/-- 'linkboylaw06.SumsChanged', WHERE WHAT IT READS IS OF BULK AT MOST 1048576: true; the input reads as it did. -/
def sumsChangedUptoRow : OpenClaim := { program := "ytgldlpfhebncgaa", sum := "b4d1e171a202de8d4f117fceffed9027a57f23255b3a4de9b1cc726259e5d60d", func := "linkboy/linkboylaw06.SumsChanged", spec := "sumsChanged", unfollowed := true, recurses := true, apart := false, narrowed := true }
def SumsChangedUptoSaid : Prop := sumsChangedUptoRow.holds Try.pinned (OpenSpec.upto sumsChangedSpec)

/-- 'linkboylaw06.SumsPseudo', WHERE WHAT IT READS IS OF BULK AT MOST 1048576: true; the input reads as it did. -/
def sumsPseudoUptoRow : OpenClaim := { program := "ytgldlpfhebncgaa", sum := "b4d1e171a202de8d4f117fceffed9027a57f23255b3a4de9b1cc726259e5d60d", func := "linkboy/linkboylaw06.SumsPseudo", spec := "sumsPseudo", unfollowed := true, recurses := true, apart := false, narrowed := true }
def SumsPseudoUptoSaid : Prop := sumsPseudoUptoRow.holds Try.pinned (OpenSpec.upto sumsPseudoSpec)

end Rows
end Go.Proofs.Ytgldlpfhebncgaa
