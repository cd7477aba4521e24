/-
  DERIVED. GIVEN WITH THE SEED: THE CARDS: each row of YtmpdcdfnbkfabaaDoorRows.lean that lists a variable, with what it lists TIED to the program's text (the seventh form; the later family's looks); each row that meets fmt, with fmt's text TOLD by the authors' own Lean function (tested against real Go, not proved from fmt's source: count such statements apart). THE CARD IS WHAT COUNTS. Prove the row's statement (the work); the ties are given (YtmpdcdfnbkfabaaDoorTie.lean); close each card by the builder's one call (the guide's Derived/Test/ToyasCard.lean, 'card_holds'). Laid BY PROGRAM, IN A SANDBOX (cutbox-door.mjs). By AI agents, Wed Nov 11 2026. No macro, syntax, notation, axiom, sorry.
-/
import Derived.Test.YtmpdcdfnbkfabaaDoorRows
import GoSem.ClaimSeven
namespace Go.Proofs.YtmpdcdfnbkfabaaDoor
namespace Rows

/-- THE TIED CARD OF 'linkboylaw42.WatchDelays'. -/
def watchDelaysCard : Claim7 := { stood := { row := watchDelaysRow, standIns := [], harness := (true, "a62a56bfb1ccd63624049a587928b846926c019901813eea0dec25d2e50d0df5"), looks := true }, kinds := [], alts := [], laidByText := true, laidKinds := [.sentinel, .sentinel, .sentinel, .data], laidTests := true, laidLooks := .later }
def WatchDelaysCardSaid : Prop := Claim7.holds Tryd.pinned (.plain (OpenSpec.ofChange watchDelaysSpec)) watchDelaysCard

/-- THE TIED CARD OF 'linkboylaw12.FrameCuts'. -/
def frameCutsCard : Claim7 := { stood := { row := frameCutsRow, standIns := [], harness := (true, "a62a56bfb1ccd63624049a587928b846926c019901813eea0dec25d2e50d0df5"), looks := true }, kinds := [], alts := [], laidByText := true, laidKinds := [.sentinel, .sentinel, .sentinel, .sentinel, .sentinel, .sentinel, .sentinel, .sentinel, .sentinel, .sentinel, .sentinel, .sentinel, .sentinel, .sentinel, .sentinel, .sentinel, .sentinel, .sentinel], laidTests := true, laidLooks := .later }
def FrameCutsCardSaid : Prop := Claim7.holds Tryd.pinned (.plain (OpenSpec.ofChange frameCutsSpec)) frameCutsCard

/-- THE TIED CARD OF 'linkboylaw12.FrameFeeds'. -/
def frameFeedsCard : Claim7 := { stood := { row := frameFeedsRow, standIns := [], harness := (true, "a62a56bfb1ccd63624049a587928b846926c019901813eea0dec25d2e50d0df5"), looks := true }, kinds := [], alts := [], laidByText := true, laidKinds := [.sentinel, .sentinel, .sentinel, .sentinel, .sentinel, .sentinel, .sentinel, .sentinel, .sentinel, .sentinel, .sentinel, .sentinel, .sentinel, .sentinel, .sentinel, .sentinel, .sentinel, .sentinel], laidTests := true, laidLooks := .later }
def FrameFeedsCardSaid : Prop := Claim7.holds Tryd.pinned (.plain (OpenSpec.ofChange frameFeedsSpec)) frameFeedsCard

/-- THE TIED CARD OF 'linkboylaw12.FrameBytes'. -/
def frameBytesCard : Claim7 := { stood := { row := frameBytesRow, standIns := [], harness := (true, "a62a56bfb1ccd63624049a587928b846926c019901813eea0dec25d2e50d0df5"), looks := true }, kinds := [], alts := [], laidByText := true, laidKinds := [.sentinel, .sentinel, .sentinel, .sentinel, .sentinel, .sentinel, .sentinel, .sentinel, .sentinel, .sentinel, .sentinel, .sentinel, .sentinel, .sentinel, .sentinel, .sentinel, .sentinel, .sentinel], laidTests := true, laidLooks := .later }
def FrameBytesCardSaid : Prop := Claim7.holds Tryd.pinned (.plain (OpenSpec.ofChange frameBytesSpec)) frameBytesCard

/-- THE TIED CARD OF 'linkboylaw09.StridePlaces'. -/
def stridePlacesCard : Claim7 := { stood := { row := stridePlacesRow, standIns := [], harness := (true, "a62a56bfb1ccd63624049a587928b846926c019901813eea0dec25d2e50d0df5"), looks := true }, kinds := [], alts := [], laidByText := true, laidKinds := [.sentinel, .sentinel], laidTests := true, laidLooks := .later }
def StridePlacesCardSaid : Prop := Claim7.holds Tryd.pinned (.plain (OpenSpec.ofChange stridePlacesSpec)) stridePlacesCard

/-- THE TIED CARD OF 'linkboylaw09.StrideOnce'. -/
def strideOnceCard : Claim7 := { stood := { row := strideOnceRow, standIns := [], harness := (true, "a62a56bfb1ccd63624049a587928b846926c019901813eea0dec25d2e50d0df5"), looks := true }, kinds := [], alts := [], laidByText := true, laidKinds := [.sentinel, .sentinel], laidTests := true, laidLooks := .later }
def StrideOnceCardSaid : Prop := Claim7.holds Tryd.pinned (.plain (OpenSpec.ofChange strideOnceSpec)) strideOnceCard

/-- THE TIED CARD OF 'linkboylaw09.StrideOf'. -/
def strideOfCard : Claim7 := { stood := { row := strideOfRow, standIns := [], harness := (true, "a62a56bfb1ccd63624049a587928b846926c019901813eea0dec25d2e50d0df5"), looks := true }, kinds := [], alts := [], laidByText := true, laidKinds := [.sentinel, .sentinel, .sentinel, .sentinel, .sentinel, .sentinel, .sentinel, .sentinel, .sentinel, .sentinel, .sentinel, .sentinel, .sentinel, .sentinel, .sentinel, .sentinel, .sentinel, .sentinel], laidTests := true, laidLooks := .later }
def StrideOfCardSaid : Prop := Claim7.holds Tryd.pinned (.plain (OpenSpec.ofChange strideOfSpec)) strideOfCard

/-- THE TIED CARD OF 'linkboylaw01.OctetsBack'. -/
def octetsBackCard : Claim7 := { stood := { row := octetsBackRow, standIns := [], harness := (true, "a62a56bfb1ccd63624049a587928b846926c019901813eea0dec25d2e50d0df5"), looks := true }, kinds := [], alts := [], laidByText := true, laidKinds := [.sentinel, .sentinel, .sentinel, .sentinel], laidTests := true, laidLooks := .later }
def OctetsBackCardSaid : Prop := Claim7.holds Tryd.pinned (.plain (OpenSpec.ofChange octetsBackSpec)) octetsBackCard

/-- THE TIED CARD OF 'linkboylaw08.PrimeLists'. -/
def primeListsCard : Claim7 := { stood := { row := primeListsRow, standIns := [], harness := (true, "a62a56bfb1ccd63624049a587928b846926c019901813eea0dec25d2e50d0df5"), looks := true }, kinds := [], alts := [], laidByText := true, laidKinds := [.sentinel], laidTests := true, laidLooks := .later }
def PrimeListsCardSaid : Prop := Claim7.holds Tryd.pinned (.plain (OpenSpec.ofChange primeListsSpec)) primeListsCard

/-- THE SECOND FORM's CARD OF 'linkboylaw42.WatchDelays'. -/
def watchDelaysUptoCard : Claim7 := { stood := { row := watchDelaysUptoRow, standIns := [], harness := (true, "a62a56bfb1ccd63624049a587928b846926c019901813eea0dec25d2e50d0df5"), looks := true }, kinds := [], alts := [], laidByText := true, laidKinds := [.sentinel, .sentinel, .sentinel, .data], laidTests := true, laidLooks := .later }
def WatchDelaysUptoCardSaid : Prop := Claim7.holds Tryd.pinned (.plain (OpenSpec.upto watchDelaysSpec)) watchDelaysUptoCard

/-- THE SECOND FORM's CARD OF 'linkboylaw12.FrameCuts'. -/
def frameCutsUptoCard : Claim7 := { stood := { row := frameCutsUptoRow, standIns := [], harness := (true, "a62a56bfb1ccd63624049a587928b846926c019901813eea0dec25d2e50d0df5"), looks := true }, kinds := [], alts := [], laidByText := true, laidKinds := [.sentinel, .sentinel, .sentinel, .sentinel, .sentinel, .sentinel, .sentinel, .sentinel, .sentinel, .sentinel, .sentinel, .sentinel, .sentinel, .sentinel, .sentinel, .sentinel, .sentinel, .sentinel], laidTests := true, laidLooks := .later }
def FrameCutsUptoCardSaid : Prop := Claim7.holds Tryd.pinned (.plain (OpenSpec.upto frameCutsSpec)) frameCutsUptoCard

/-- THE SECOND FORM's CARD OF 'linkboylaw12.FrameFeeds'. -/
def frameFeedsUptoCard : Claim7 := { stood := { row := frameFeedsUptoRow, standIns := [], harness := (true, "a62a56bfb1ccd63624049a587928b846926c019901813eea0dec25d2e50d0df5"), looks := true }, kinds := [], alts := [], laidByText := true, laidKinds := [.sentinel, .sentinel, .sentinel, .sentinel, .sentinel, .sentinel, .sentinel, .sentinel, .sentinel, .sentinel, .sentinel, .sentinel, .sentinel, .sentinel, .sentinel, .sentinel, .sentinel, .sentinel], laidTests := true, laidLooks := .later }
def FrameFeedsUptoCardSaid : Prop := Claim7.holds Tryd.pinned (.plain (OpenSpec.upto frameFeedsSpec)) frameFeedsUptoCard

/-- THE SECOND FORM's CARD OF 'linkboylaw12.FrameBytes'. -/
def frameBytesUptoCard : Claim7 := { stood := { row := frameBytesUptoRow, standIns := [], harness := (true, "a62a56bfb1ccd63624049a587928b846926c019901813eea0dec25d2e50d0df5"), looks := true }, kinds := [], alts := [], laidByText := true, laidKinds := [.sentinel, .sentinel, .sentinel, .sentinel, .sentinel, .sentinel, .sentinel, .sentinel, .sentinel, .sentinel, .sentinel, .sentinel, .sentinel, .sentinel, .sentinel, .sentinel, .sentinel, .sentinel], laidTests := true, laidLooks := .later }
def FrameBytesUptoCardSaid : Prop := Claim7.holds Tryd.pinned (.plain (OpenSpec.upto frameBytesSpec)) frameBytesUptoCard

/-- THE SECOND FORM's CARD OF 'linkboylaw09.StridePlaces'. -/
def stridePlacesUptoCard : Claim7 := { stood := { row := stridePlacesUptoRow, standIns := [], harness := (true, "a62a56bfb1ccd63624049a587928b846926c019901813eea0dec25d2e50d0df5"), looks := true }, kinds := [], alts := [], laidByText := true, laidKinds := [.sentinel, .sentinel], laidTests := true, laidLooks := .later }
def StridePlacesUptoCardSaid : Prop := Claim7.holds Tryd.pinned (.plain (OpenSpec.upto stridePlacesSpec)) stridePlacesUptoCard

/-- THE SECOND FORM's CARD OF 'linkboylaw09.StrideOnce'. -/
def strideOnceUptoCard : Claim7 := { stood := { row := strideOnceUptoRow, standIns := [], harness := (true, "a62a56bfb1ccd63624049a587928b846926c019901813eea0dec25d2e50d0df5"), looks := true }, kinds := [], alts := [], laidByText := true, laidKinds := [.sentinel, .sentinel], laidTests := true, laidLooks := .later }
def StrideOnceUptoCardSaid : Prop := Claim7.holds Tryd.pinned (.plain (OpenSpec.upto strideOnceSpec)) strideOnceUptoCard

/-- THE SECOND FORM's CARD OF 'linkboylaw09.StrideOf'. -/
def strideOfUptoCard : Claim7 := { stood := { row := strideOfUptoRow, standIns := [], harness := (true, "a62a56bfb1ccd63624049a587928b846926c019901813eea0dec25d2e50d0df5"), looks := true }, kinds := [], alts := [], laidByText := true, laidKinds := [.sentinel, .sentinel, .sentinel, .sentinel, .sentinel, .sentinel, .sentinel, .sentinel, .sentinel, .sentinel, .sentinel, .sentinel, .sentinel, .sentinel, .sentinel, .sentinel, .sentinel, .sentinel], laidTests := true, laidLooks := .later }
def StrideOfUptoCardSaid : Prop := Claim7.holds Tryd.pinned (.plain (OpenSpec.upto strideOfSpec)) strideOfUptoCard

/-- THE SECOND FORM's CARD OF 'linkboylaw01.OctetsBack'. -/
def octetsBackUptoCard : Claim7 := { stood := { row := octetsBackUptoRow, standIns := [], harness := (true, "a62a56bfb1ccd63624049a587928b846926c019901813eea0dec25d2e50d0df5"), looks := true }, kinds := [], alts := [], laidByText := true, laidKinds := [.sentinel, .sentinel, .sentinel, .sentinel], laidTests := true, laidLooks := .later }
def OctetsBackUptoCardSaid : Prop := Claim7.holds Tryd.pinned (.plain (OpenSpec.upto octetsBackSpec)) octetsBackUptoCard

/-- THE SECOND FORM's CARD OF 'linkboylaw08.PrimeLists'. -/
def primeListsUptoCard : Claim7 := { stood := { row := primeListsUptoRow, standIns := [], harness := (true, "a62a56bfb1ccd63624049a587928b846926c019901813eea0dec25d2e50d0df5"), looks := true }, kinds := [], alts := [], laidByText := true, laidKinds := [.sentinel], laidTests := true, laidLooks := .later }
def PrimeListsUptoCardSaid : Prop := Claim7.holds Tryd.pinned (.plain (OpenSpec.upto primeListsSpec)) primeListsUptoCard
end Rows
end Go.Proofs.YtmpdcdfnbkfabaaDoor
