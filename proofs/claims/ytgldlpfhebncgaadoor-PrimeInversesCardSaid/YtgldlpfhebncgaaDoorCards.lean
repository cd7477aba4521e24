/-
  DERIVED. GIVEN WITH THE SEED: THE CARDS: each row of YtgldlpfhebncgaaDoorRows.lean that lists a variable, with what it lists TIED to the program's text (the seventh form; the later family's looks); each row that meets fmt, with fmt's text TOLD by the authors' own Lean function (tested against real Go, not proved from fmt's source: count such statements apart). THE CARD IS WHAT COUNTS. Prove the row's statement (the work); the ties are given (YtgldlpfhebncgaaDoorTie.lean); close each card by the builder's one call (the guide's Derived/Test/ToyasCard.lean, 'card_holds'). Laid BY PROGRAM, IN A SANDBOX (cutbox-door.mjs). By AI agents, Wed Nov 11 2026. No macro, syntax, notation, axiom, sorry.
-/
import Derived.Test.YtgldlpfhebncgaaDoorRows
import GoSem.ClaimSeven
namespace Go.Proofs.YtgldlpfhebncgaaDoor
namespace Rows

/-- THE TIED CARD OF 'linkboylaw08.PrimePowers'. -/
def primePowersCard : Claim7 := { stood := { row := primePowersRow, standIns := [], harness := (true, "a20624a3dddcb07b38d21df626f850ca3de26bd05790f0270ae29da87401cf78"), looks := true }, kinds := [], alts := [], laidByText := true, laidKinds := [.sentinel], laidTests := true, laidLooks := .later }
def PrimePowersCardSaid : Prop := Claim7.holds Tryd.pinned (.plain (OpenSpec.ofChange primePowersSpec)) primePowersCard

/-- THE TIED CARD OF 'linkboylaw08.PrimeLists'. -/
def primeListsCard : Claim7 := { stood := { row := primeListsRow, standIns := [], harness := (true, "a20624a3dddcb07b38d21df626f850ca3de26bd05790f0270ae29da87401cf78"), looks := true }, kinds := [], alts := [], laidByText := true, laidKinds := [.sentinel], laidTests := true, laidLooks := .later }
def PrimeListsCardSaid : Prop := Claim7.holds Tryd.pinned (.plain (OpenSpec.ofChange primeListsSpec)) primeListsCard

/-- THE TIED CARD OF 'linkboylaw08.PrimeIs'. -/
def primeIsCard : Claim7 := { stood := { row := primeIsRow, standIns := [], harness := (true, "a20624a3dddcb07b38d21df626f850ca3de26bd05790f0270ae29da87401cf78"), looks := true }, kinds := [], alts := [], laidByText := true, laidKinds := [.sentinel, .sentinel, .sentinel, .sentinel, .sentinel, .sentinel, .sentinel, .sentinel, .sentinel, .sentinel, .sentinel, .sentinel, .sentinel, .sentinel, .sentinel, .sentinel, .sentinel, .sentinel], laidTests := true, laidLooks := .later }
def PrimeIsCardSaid : Prop := Claim7.holds Tryd.pinned (.plain (OpenSpec.ofChange primeIsSpec)) primeIsCard

/-- THE TIED CARD OF 'linkboylaw08.PrimeInverses'. -/
def primeInversesCard : Claim7 := { stood := { row := primeInversesRow, standIns := [], harness := (true, "a20624a3dddcb07b38d21df626f850ca3de26bd05790f0270ae29da87401cf78"), looks := true }, kinds := [], alts := [], laidByText := true, laidKinds := [.sentinel, .sentinel, .sentinel, .sentinel, .sentinel, .sentinel, .sentinel, .sentinel, .sentinel, .sentinel, .sentinel, .sentinel, .sentinel, .sentinel, .sentinel, .sentinel, .sentinel, .sentinel], laidTests := true, laidLooks := .later }
def PrimeInversesCardSaid : Prop := Claim7.holds Tryd.pinned (.plain (OpenSpec.ofChange primeInversesSpec)) primeInversesCard

/-- THE SECOND FORM's CARD OF 'linkboylaw08.PrimePowers'. -/
def primePowersUptoCard : Claim7 := { stood := { row := primePowersUptoRow, standIns := [], harness := (true, "a20624a3dddcb07b38d21df626f850ca3de26bd05790f0270ae29da87401cf78"), looks := true }, kinds := [], alts := [], laidByText := true, laidKinds := [.sentinel], laidTests := true, laidLooks := .later }
def PrimePowersUptoCardSaid : Prop := Claim7.holds Tryd.pinned (.plain (OpenSpec.upto primePowersSpec)) primePowersUptoCard

/-- THE SECOND FORM's CARD OF 'linkboylaw08.PrimeLists'. -/
def primeListsUptoCard : Claim7 := { stood := { row := primeListsUptoRow, standIns := [], harness := (true, "a20624a3dddcb07b38d21df626f850ca3de26bd05790f0270ae29da87401cf78"), looks := true }, kinds := [], alts := [], laidByText := true, laidKinds := [.sentinel], laidTests := true, laidLooks := .later }
def PrimeListsUptoCardSaid : Prop := Claim7.holds Tryd.pinned (.plain (OpenSpec.upto primeListsSpec)) primeListsUptoCard

/-- THE SECOND FORM's CARD OF 'linkboylaw08.PrimeIs'. -/
def primeIsUptoCard : Claim7 := { stood := { row := primeIsUptoRow, standIns := [], harness := (true, "a20624a3dddcb07b38d21df626f850ca3de26bd05790f0270ae29da87401cf78"), looks := true }, kinds := [], alts := [], laidByText := true, laidKinds := [.sentinel, .sentinel, .sentinel, .sentinel, .sentinel, .sentinel, .sentinel, .sentinel, .sentinel, .sentinel, .sentinel, .sentinel, .sentinel, .sentinel, .sentinel, .sentinel, .sentinel, .sentinel], laidTests := true, laidLooks := .later }
def PrimeIsUptoCardSaid : Prop := Claim7.holds Tryd.pinned (.plain (OpenSpec.upto primeIsSpec)) primeIsUptoCard

/-- THE SECOND FORM's CARD OF 'linkboylaw08.PrimeInverses'. -/
def primeInversesUptoCard : Claim7 := { stood := { row := primeInversesUptoRow, standIns := [], harness := (true, "a20624a3dddcb07b38d21df626f850ca3de26bd05790f0270ae29da87401cf78"), looks := true }, kinds := [], alts := [], laidByText := true, laidKinds := [.sentinel, .sentinel, .sentinel, .sentinel, .sentinel, .sentinel, .sentinel, .sentinel, .sentinel, .sentinel, .sentinel, .sentinel, .sentinel, .sentinel, .sentinel, .sentinel, .sentinel, .sentinel], laidTests := true, laidLooks := .later }
def PrimeInversesUptoCardSaid : Prop := Claim7.holds Tryd.pinned (.plain (OpenSpec.upto primeInversesSpec)) primeInversesUptoCard
end Rows
end Go.Proofs.YtgldlpfhebncgaaDoor
