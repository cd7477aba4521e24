/-
  DERIVED. GIVEN WITH THE SEED: THE CARDS: each row of YtjpppkhoddggbaaGreatDoorRows.lean that lists a variable, with what it lists TIED to the program's text (the seventh form; the later family's looks); each row that meets fmt, with fmt's text TOLD by the authors' own Lean function (tested against real Go, not proved from fmt's source: count such statements apart). THE CARD IS WHAT COUNTS. Prove the row's statement (the work); the ties are given (YtjpppkhoddggbaaGreatDoorTie.lean); close each card by the builder's one call (the guide's Derived/Test/ToyasCard.lean, 'card_holds'). Laid BY PROGRAM, IN A SANDBOX (cutbox-door.mjs). By AI agents, Wed Nov 11 2026. No macro, syntax, notation, axiom, sorry.
-/
import Derived.Test.YtjpppkhoddggbaaGreatDoorRows
import GoSem.ClaimSeven
namespace Go.Proofs.YtjpppkhoddggbaaGreatDoor
namespace Rows

/-- THE TIED CARD OF 'linkboylaw14.EventWords'. -/
def eventWordsCard : Claim7 := { stood := { row := eventWordsRow, standIns := [], harness := (true, "3df6bece3aa15e6492b2dbb82bd51b92ffdf235a306997c68a60e59614a63d84"), looks := false }, kinds := [], alts := [], laidByText := true, laidKinds := [.data, .sentinel, .sentinel, .sentinel, .sentinel, .sentinel, .data, .pinned], laidTests := true, laidLooks := .later }
def EventWordsCardSaid : Prop := Claim7.holds Tryz.pinned (.plain (OpenSpec.ofChange eventWordsSpec)) eventWordsCard

/-- THE SECOND FORM's CARD OF 'linkboylaw14.EventWords'. -/
def eventWordsUptoCard : Claim7 := { stood := { row := eventWordsUptoRow, standIns := [], harness := (true, "3df6bece3aa15e6492b2dbb82bd51b92ffdf235a306997c68a60e59614a63d84"), looks := false }, kinds := [], alts := [], laidByText := true, laidKinds := [.data, .sentinel, .sentinel, .sentinel, .sentinel, .sentinel, .data, .pinned], laidTests := true, laidLooks := .later }
def EventWordsUptoCardSaid : Prop := Claim7.holds Tryz.pinned (.plain (OpenSpec.upto eventWordsSpec)) eventWordsUptoCard
end Rows
end Go.Proofs.YtjpppkhoddggbaaGreatDoor
