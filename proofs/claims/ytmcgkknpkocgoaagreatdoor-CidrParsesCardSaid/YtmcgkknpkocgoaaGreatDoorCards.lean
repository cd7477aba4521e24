/-
  DERIVED. GIVEN WITH THE SEED: THE CARDS: each row of YtmcgkknpkocgoaaGreatDoorRows.lean that lists a variable, with what it lists TIED to the program's text (the seventh form; the later family's looks); each row that meets fmt, with fmt's text TOLD by the authors' own Lean function (tested against real Go, not proved from fmt's source: count such statements apart). THE CARD IS WHAT COUNTS. Prove the row's statement (the work); the ties are given (YtmcgkknpkocgoaaGreatDoorTie.lean); close each card by the builder's one call (the guide's Derived/Test/ToyasCard.lean, 'card_holds'). Laid BY PROGRAM, IN A SANDBOX (cutbox-door.mjs). By AI agents, Wed Nov 11 2026. No macro, syntax, notation, axiom, sorry.
-/
import Derived.Test.YtmcgkknpkocgoaaGreatDoorRows
import GoSem.ClaimSeven
namespace Go.Proofs.YtmcgkknpkocgoaaGreatDoor
namespace Rows

/-- THE TIED CARD OF 'linkboylaw02.AddrFormats'. -/
def addrFormatsCard : Claim7 := { stood := { row := addrFormatsRow, standIns := [], harness := (true, "d362b0e06f003f26b92db085e7dd77dfb9ca40a5e14cbfed254e0fbc774f3b77"), looks := true }, kinds := [], alts := [], laidByText := true, laidKinds := [.data, .data, .data, .data, .sentinel, .sentinel, .sentinel, .pinned, .pinned], laidTests := true, laidLooks := .later }
def AddrFormatsCardSaid : Prop := Claim7.holds Tryz.pinned (.plain (OpenSpec.ofChange addrFormatsSpec)) addrFormatsCard

/-- THE TIED CARD OF 'linkboylaw02.AddrOrders'. -/
def addrOrdersCard : Claim7 := { stood := { row := addrOrdersRow, standIns := [], harness := (true, "d362b0e06f003f26b92db085e7dd77dfb9ca40a5e14cbfed254e0fbc774f3b77"), looks := true }, kinds := [], alts := [], laidByText := true, laidKinds := [.data, .data, .data, .data, .sentinel, .sentinel, .sentinel, .pinned, .pinned], laidTests := true, laidLooks := .later }
def AddrOrdersCardSaid : Prop := Claim7.holds Tryz.pinned (.plain (OpenSpec.ofChange addrOrdersSpec)) addrOrdersCard

/-- THE TIED CARD OF 'linkboylaw02.AddrParses'. -/
def addrParsesCard : Claim7 := { stood := { row := addrParsesRow, standIns := [], harness := (true, "d362b0e06f003f26b92db085e7dd77dfb9ca40a5e14cbfed254e0fbc774f3b77"), looks := true }, kinds := [], alts := [], laidByText := true, laidKinds := [.data, .data, .data, .data, .sentinel, .sentinel, .sentinel, .sentinel, .sentinel, .sentinel, .sentinel, .sentinel, .sentinel, .sentinel, .sentinel, .sentinel, .sentinel, .sentinel, .sentinel, .sentinel, .sentinel, .sentinel, .sentinel, .sentinel, .pinned, .pinned], laidTests := true, laidLooks := .later }
def AddrParsesCardSaid : Prop := Claim7.holds Tryz.pinned (.plain (OpenSpec.ofChange addrParsesSpec)) addrParsesCard

/-- THE TIED CARD OF 'linkboylaw02.AddrBytes'. -/
def addrBytesCard : Claim7 := { stood := { row := addrBytesRow, standIns := [], harness := (true, "d362b0e06f003f26b92db085e7dd77dfb9ca40a5e14cbfed254e0fbc774f3b77"), looks := true }, kinds := [], alts := [], laidByText := true, laidKinds := [.data, .data, .data, .data, .sentinel, .sentinel, .sentinel, .sentinel, .sentinel, .sentinel, .sentinel, .sentinel, .sentinel, .sentinel, .sentinel, .sentinel, .sentinel, .sentinel, .sentinel, .sentinel, .sentinel, .sentinel, .sentinel, .sentinel, .pinned, .pinned], laidTests := true, laidLooks := .later }
def AddrBytesCardSaid : Prop := Claim7.holds Tryz.pinned (.plain (OpenSpec.ofChange addrBytesSpec)) addrBytesCard

/-- THE TIED CARD OF 'linkboylaw04.PortsWords'. -/
def portsWordsCard : Claim7 := { stood := { row := portsWordsRow, standIns := [], harness := (true, "d362b0e06f003f26b92db085e7dd77dfb9ca40a5e14cbfed254e0fbc774f3b77"), looks := true }, kinds := [], alts := [], laidByText := true, laidKinds := [.data, .data, .data, .data, .sentinel, .sentinel, .sentinel, .sentinel, .sentinel, .sentinel, .sentinel, .sentinel, .sentinel, .sentinel, .sentinel, .sentinel, .sentinel, .sentinel, .sentinel, .sentinel, .sentinel, .sentinel, .sentinel, .sentinel, .pinned, .pinned], laidTests := true, laidLooks := .later }
def PortsWordsCardSaid : Prop := Claim7.holds Tryz.pinned (.plain (OpenSpec.ofChange portsWordsSpec)) portsWordsCard

/-- THE TIED CARD OF 'linkboylaw04.PortsReads'. -/
def portsReadsCard : Claim7 := { stood := { row := portsReadsRow, standIns := [], harness := (true, "d362b0e06f003f26b92db085e7dd77dfb9ca40a5e14cbfed254e0fbc774f3b77"), looks := true }, kinds := [], alts := [], laidByText := true, laidKinds := [.data, .data, .data, .data, .sentinel, .sentinel, .sentinel, .sentinel, .sentinel, .sentinel, .sentinel, .sentinel, .sentinel, .sentinel, .sentinel, .sentinel, .sentinel, .sentinel, .sentinel, .sentinel, .sentinel, .sentinel, .sentinel, .sentinel, .pinned, .pinned], laidTests := true, laidLooks := .later }
def PortsReadsCardSaid : Prop := Claim7.holds Tryz.pinned (.plain (OpenSpec.ofChange portsReadsSpec)) portsReadsCard

/-- THE TIED CARD OF 'linkboylaw04.PortsPoints'. -/
def portsPointsCard : Claim7 := { stood := { row := portsPointsRow, standIns := [], harness := (true, "d362b0e06f003f26b92db085e7dd77dfb9ca40a5e14cbfed254e0fbc774f3b77"), looks := true }, kinds := [], alts := [], laidByText := true, laidKinds := [.data, .data, .data, .data, .sentinel, .sentinel, .sentinel, .sentinel, .sentinel, .sentinel, .sentinel, .sentinel, .sentinel, .sentinel, .sentinel, .sentinel, .sentinel, .sentinel, .sentinel, .sentinel, .sentinel, .sentinel, .sentinel, .sentinel, .pinned, .pinned], laidTests := true, laidLooks := .later }
def PortsPointsCardSaid : Prop := Claim7.holds Tryz.pinned (.plain (OpenSpec.ofChange portsPointsSpec)) portsPointsCard

/-- THE TIED CARD OF 'linkboylaw03.CidrParses'. -/
def cidrParsesCard : Claim7 := { stood := { row := cidrParsesRow, standIns := [], harness := (true, "d362b0e06f003f26b92db085e7dd77dfb9ca40a5e14cbfed254e0fbc774f3b77"), looks := true }, kinds := [], alts := [], laidByText := true, laidKinds := [.data, .data, .data, .data, .sentinel, .sentinel, .sentinel, .sentinel, .sentinel, .sentinel, .sentinel, .sentinel, .sentinel, .sentinel, .sentinel, .sentinel, .sentinel, .sentinel, .sentinel, .sentinel, .sentinel, .sentinel, .sentinel, .sentinel, .pinned, .pinned], laidTests := true, laidLooks := .later }
def CidrParsesCardSaid : Prop := Claim7.holds Tryz.pinned (.plain (OpenSpec.ofChange cidrParsesSpec)) cidrParsesCard

/-- THE TIED CARD OF 'linkboylaw03.CidrContains'. -/
def cidrContainsCard : Claim7 := { stood := { row := cidrContainsRow, standIns := [], harness := (true, "d362b0e06f003f26b92db085e7dd77dfb9ca40a5e14cbfed254e0fbc774f3b77"), looks := true }, kinds := [], alts := [], laidByText := true, laidKinds := [.data, .data, .data, .data, .sentinel, .sentinel, .sentinel, .sentinel, .sentinel, .sentinel, .sentinel, .sentinel, .sentinel, .sentinel, .sentinel, .sentinel, .sentinel, .sentinel, .sentinel, .sentinel, .sentinel, .sentinel, .sentinel, .sentinel, .pinned, .pinned], laidTests := true, laidLooks := .later }
def CidrContainsCardSaid : Prop := Claim7.holds Tryz.pinned (.plain (OpenSpec.ofChange cidrContainsSpec)) cidrContainsCard

/-- THE TIED CARD OF 'linkboylaw03.CidrReads'. -/
def cidrReadsCard : Claim7 := { stood := { row := cidrReadsRow, standIns := [], harness := (true, "d362b0e06f003f26b92db085e7dd77dfb9ca40a5e14cbfed254e0fbc774f3b77"), looks := true }, kinds := [], alts := [], laidByText := true, laidKinds := [.data, .data, .data, .data, .sentinel, .sentinel, .sentinel, .sentinel, .sentinel, .sentinel, .sentinel, .sentinel, .sentinel, .sentinel, .sentinel, .sentinel, .sentinel, .sentinel, .sentinel, .sentinel, .sentinel, .sentinel, .sentinel, .sentinel, .pinned, .pinned], laidTests := true, laidLooks := .later }
def CidrReadsCardSaid : Prop := Claim7.holds Tryz.pinned (.plain (OpenSpec.ofChange cidrReadsSpec)) cidrReadsCard

/-- THE TIED CARD OF 'linkboylaw03.CidrMerges'. -/
def cidrMergesCard : Claim7 := { stood := { row := cidrMergesRow, standIns := [], harness := (true, "d362b0e06f003f26b92db085e7dd77dfb9ca40a5e14cbfed254e0fbc774f3b77"), looks := true }, kinds := [], alts := [], laidByText := true, laidKinds := [.data, .data, .data, .data, .sentinel, .sentinel, .sentinel, .sentinel, .sentinel, .pinned, .pinned], laidTests := true, laidLooks := .later }
def CidrMergesCardSaid : Prop := Claim7.holds Tryz.pinned (.plain (OpenSpec.ofChange cidrMergesSpec)) cidrMergesCard

/-- THE SECOND FORM's CARD OF 'linkboylaw02.AddrFormats'. -/
def addrFormatsUptoCard : Claim7 := { stood := { row := addrFormatsUptoRow, standIns := [], harness := (true, "d362b0e06f003f26b92db085e7dd77dfb9ca40a5e14cbfed254e0fbc774f3b77"), looks := true }, kinds := [], alts := [], laidByText := true, laidKinds := [.data, .data, .data, .data, .sentinel, .sentinel, .sentinel, .pinned, .pinned], laidTests := true, laidLooks := .later }
def AddrFormatsUptoCardSaid : Prop := Claim7.holds Tryz.pinned (.plain (OpenSpec.upto addrFormatsSpec)) addrFormatsUptoCard

/-- THE SECOND FORM's CARD OF 'linkboylaw02.AddrOrders'. -/
def addrOrdersUptoCard : Claim7 := { stood := { row := addrOrdersUptoRow, standIns := [], harness := (true, "d362b0e06f003f26b92db085e7dd77dfb9ca40a5e14cbfed254e0fbc774f3b77"), looks := true }, kinds := [], alts := [], laidByText := true, laidKinds := [.data, .data, .data, .data, .sentinel, .sentinel, .sentinel, .pinned, .pinned], laidTests := true, laidLooks := .later }
def AddrOrdersUptoCardSaid : Prop := Claim7.holds Tryz.pinned (.plain (OpenSpec.upto addrOrdersSpec)) addrOrdersUptoCard

/-- THE SECOND FORM's CARD OF 'linkboylaw02.AddrParses'. -/
def addrParsesUptoCard : Claim7 := { stood := { row := addrParsesUptoRow, standIns := [], harness := (true, "d362b0e06f003f26b92db085e7dd77dfb9ca40a5e14cbfed254e0fbc774f3b77"), looks := true }, kinds := [], alts := [], laidByText := true, laidKinds := [.data, .data, .data, .data, .sentinel, .sentinel, .sentinel, .sentinel, .sentinel, .sentinel, .sentinel, .sentinel, .sentinel, .sentinel, .sentinel, .sentinel, .sentinel, .sentinel, .sentinel, .sentinel, .sentinel, .sentinel, .sentinel, .sentinel, .pinned, .pinned], laidTests := true, laidLooks := .later }
def AddrParsesUptoCardSaid : Prop := Claim7.holds Tryz.pinned (.plain (OpenSpec.upto addrParsesSpec)) addrParsesUptoCard

/-- THE SECOND FORM's CARD OF 'linkboylaw02.AddrBytes'. -/
def addrBytesUptoCard : Claim7 := { stood := { row := addrBytesUptoRow, standIns := [], harness := (true, "d362b0e06f003f26b92db085e7dd77dfb9ca40a5e14cbfed254e0fbc774f3b77"), looks := true }, kinds := [], alts := [], laidByText := true, laidKinds := [.data, .data, .data, .data, .sentinel, .sentinel, .sentinel, .sentinel, .sentinel, .sentinel, .sentinel, .sentinel, .sentinel, .sentinel, .sentinel, .sentinel, .sentinel, .sentinel, .sentinel, .sentinel, .sentinel, .sentinel, .sentinel, .sentinel, .pinned, .pinned], laidTests := true, laidLooks := .later }
def AddrBytesUptoCardSaid : Prop := Claim7.holds Tryz.pinned (.plain (OpenSpec.upto addrBytesSpec)) addrBytesUptoCard

/-- THE SECOND FORM's CARD OF 'linkboylaw04.PortsWords'. -/
def portsWordsUptoCard : Claim7 := { stood := { row := portsWordsUptoRow, standIns := [], harness := (true, "d362b0e06f003f26b92db085e7dd77dfb9ca40a5e14cbfed254e0fbc774f3b77"), looks := true }, kinds := [], alts := [], laidByText := true, laidKinds := [.data, .data, .data, .data, .sentinel, .sentinel, .sentinel, .sentinel, .sentinel, .sentinel, .sentinel, .sentinel, .sentinel, .sentinel, .sentinel, .sentinel, .sentinel, .sentinel, .sentinel, .sentinel, .sentinel, .sentinel, .sentinel, .sentinel, .pinned, .pinned], laidTests := true, laidLooks := .later }
def PortsWordsUptoCardSaid : Prop := Claim7.holds Tryz.pinned (.plain (OpenSpec.upto portsWordsSpec)) portsWordsUptoCard

/-- THE SECOND FORM's CARD OF 'linkboylaw04.PortsReads'. -/
def portsReadsUptoCard : Claim7 := { stood := { row := portsReadsUptoRow, standIns := [], harness := (true, "d362b0e06f003f26b92db085e7dd77dfb9ca40a5e14cbfed254e0fbc774f3b77"), looks := true }, kinds := [], alts := [], laidByText := true, laidKinds := [.data, .data, .data, .data, .sentinel, .sentinel, .sentinel, .sentinel, .sentinel, .sentinel, .sentinel, .sentinel, .sentinel, .sentinel, .sentinel, .sentinel, .sentinel, .sentinel, .sentinel, .sentinel, .sentinel, .sentinel, .sentinel, .sentinel, .pinned, .pinned], laidTests := true, laidLooks := .later }
def PortsReadsUptoCardSaid : Prop := Claim7.holds Tryz.pinned (.plain (OpenSpec.upto portsReadsSpec)) portsReadsUptoCard

/-- THE SECOND FORM's CARD OF 'linkboylaw04.PortsPoints'. -/
def portsPointsUptoCard : Claim7 := { stood := { row := portsPointsUptoRow, standIns := [], harness := (true, "d362b0e06f003f26b92db085e7dd77dfb9ca40a5e14cbfed254e0fbc774f3b77"), looks := true }, kinds := [], alts := [], laidByText := true, laidKinds := [.data, .data, .data, .data, .sentinel, .sentinel, .sentinel, .sentinel, .sentinel, .sentinel, .sentinel, .sentinel, .sentinel, .sentinel, .sentinel, .sentinel, .sentinel, .sentinel, .sentinel, .sentinel, .sentinel, .sentinel, .sentinel, .sentinel, .pinned, .pinned], laidTests := true, laidLooks := .later }
def PortsPointsUptoCardSaid : Prop := Claim7.holds Tryz.pinned (.plain (OpenSpec.upto portsPointsSpec)) portsPointsUptoCard

/-- THE SECOND FORM's CARD OF 'linkboylaw03.CidrParses'. -/
def cidrParsesUptoCard : Claim7 := { stood := { row := cidrParsesUptoRow, standIns := [], harness := (true, "d362b0e06f003f26b92db085e7dd77dfb9ca40a5e14cbfed254e0fbc774f3b77"), looks := true }, kinds := [], alts := [], laidByText := true, laidKinds := [.data, .data, .data, .data, .sentinel, .sentinel, .sentinel, .sentinel, .sentinel, .sentinel, .sentinel, .sentinel, .sentinel, .sentinel, .sentinel, .sentinel, .sentinel, .sentinel, .sentinel, .sentinel, .sentinel, .sentinel, .sentinel, .sentinel, .pinned, .pinned], laidTests := true, laidLooks := .later }
def CidrParsesUptoCardSaid : Prop := Claim7.holds Tryz.pinned (.plain (OpenSpec.upto cidrParsesSpec)) cidrParsesUptoCard

/-- THE SECOND FORM's CARD OF 'linkboylaw03.CidrContains'. -/
def cidrContainsUptoCard : Claim7 := { stood := { row := cidrContainsUptoRow, standIns := [], harness := (true, "d362b0e06f003f26b92db085e7dd77dfb9ca40a5e14cbfed254e0fbc774f3b77"), looks := true }, kinds := [], alts := [], laidByText := true, laidKinds := [.data, .data, .data, .data, .sentinel, .sentinel, .sentinel, .sentinel, .sentinel, .sentinel, .sentinel, .sentinel, .sentinel, .sentinel, .sentinel, .sentinel, .sentinel, .sentinel, .sentinel, .sentinel, .sentinel, .sentinel, .sentinel, .sentinel, .pinned, .pinned], laidTests := true, laidLooks := .later }
def CidrContainsUptoCardSaid : Prop := Claim7.holds Tryz.pinned (.plain (OpenSpec.upto cidrContainsSpec)) cidrContainsUptoCard

/-- THE SECOND FORM's CARD OF 'linkboylaw03.CidrReads'. -/
def cidrReadsUptoCard : Claim7 := { stood := { row := cidrReadsUptoRow, standIns := [], harness := (true, "d362b0e06f003f26b92db085e7dd77dfb9ca40a5e14cbfed254e0fbc774f3b77"), looks := true }, kinds := [], alts := [], laidByText := true, laidKinds := [.data, .data, .data, .data, .sentinel, .sentinel, .sentinel, .sentinel, .sentinel, .sentinel, .sentinel, .sentinel, .sentinel, .sentinel, .sentinel, .sentinel, .sentinel, .sentinel, .sentinel, .sentinel, .sentinel, .sentinel, .sentinel, .sentinel, .pinned, .pinned], laidTests := true, laidLooks := .later }
def CidrReadsUptoCardSaid : Prop := Claim7.holds Tryz.pinned (.plain (OpenSpec.upto cidrReadsSpec)) cidrReadsUptoCard

/-- THE SECOND FORM's CARD OF 'linkboylaw03.CidrMerges'. -/
def cidrMergesUptoCard : Claim7 := { stood := { row := cidrMergesUptoRow, standIns := [], harness := (true, "d362b0e06f003f26b92db085e7dd77dfb9ca40a5e14cbfed254e0fbc774f3b77"), looks := true }, kinds := [], alts := [], laidByText := true, laidKinds := [.data, .data, .data, .data, .sentinel, .sentinel, .sentinel, .sentinel, .sentinel, .pinned, .pinned], laidTests := true, laidLooks := .later }
def CidrMergesUptoCardSaid : Prop := Claim7.holds Tryz.pinned (.plain (OpenSpec.upto cidrMergesSpec)) cidrMergesUptoCard
end Rows
end Go.Proofs.YtmcgkknpkocgoaaGreatDoor
