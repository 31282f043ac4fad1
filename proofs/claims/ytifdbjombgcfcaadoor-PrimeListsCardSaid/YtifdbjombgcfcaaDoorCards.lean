/-
  DERIVED. GIVEN WITH THE SEED: THE CARDS: each row of YtifdbjombgcfcaaDoorRows.lean that lists a variable, with what it lists TIED to the program's text (the seventh form; the later family's looks); each row that meets fmt, with fmt's text TOLD by the authors' own Lean function (tested against real Go, not proved from fmt's source: count such statements apart). THE CARD IS WHAT COUNTS. Prove the row's statement (the work); the ties are given (YtifdbjombgcfcaaDoorTie.lean); close each card by the builder's one call (the guide's Derived/Test/ToyasCard.lean, 'card_holds'). Laid BY PROGRAM, IN A SANDBOX (cutbox-door.mjs). By AI agents, Wed Nov 11 2026. No macro, syntax, notation, axiom, sorry.
-/
import Derived.Test.YtifdbjombgcfcaaDoorRows
import GoSem.ClaimSeven
namespace Go.Proofs.YtifdbjombgcfcaaDoor
namespace Rows

/-- THE TIED CARD OF 'linkboylaw08.PrimePowers'. -/
def primePowersCard : Claim7 := { stood := { row := primePowersRow, standIns := [], harness := (true, "605fb9211220f1b3b8af1b71fc1c94e9e04f13e7b0717549c7fa8328361243d1"), looks := true }, kinds := [], alts := [], laidByText := true, laidKinds := [.sentinel], laidTests := true, laidLooks := .later }
def PrimePowersCardSaid : Prop := Claim7.holds Tryd.pinned (.plain (OpenSpec.ofChange primePowersSpec)) primePowersCard

/-- THE TIED CARD OF 'linkboylaw08.PrimeLists'. -/
def primeListsCard : Claim7 := { stood := { row := primeListsRow, standIns := [], harness := (true, "605fb9211220f1b3b8af1b71fc1c94e9e04f13e7b0717549c7fa8328361243d1"), looks := true }, kinds := [], alts := [], laidByText := true, laidKinds := [.sentinel], laidTests := true, laidLooks := .later }
def PrimeListsCardSaid : Prop := Claim7.holds Tryd.pinned (.plain (OpenSpec.ofChange primeListsSpec)) primeListsCard

/-- THE TIED CARD OF 'linkboylaw08.PrimeIs'. -/
def primeIsCard : Claim7 := { stood := { row := primeIsRow, standIns := [], harness := (true, "605fb9211220f1b3b8af1b71fc1c94e9e04f13e7b0717549c7fa8328361243d1"), looks := true }, kinds := [], alts := [], laidByText := true, laidKinds := [.sentinel, .sentinel, .sentinel, .sentinel, .sentinel, .sentinel, .sentinel, .sentinel, .sentinel, .sentinel, .sentinel, .sentinel, .sentinel, .sentinel, .sentinel, .sentinel, .sentinel, .sentinel], laidTests := true, laidLooks := .later }
def PrimeIsCardSaid : Prop := Claim7.holds Tryd.pinned (.plain (OpenSpec.ofChange primeIsSpec)) primeIsCard

/-- THE TIED CARD OF 'linkboylaw08.PrimeInverses'. -/
def primeInversesCard : Claim7 := { stood := { row := primeInversesRow, standIns := [], harness := (true, "605fb9211220f1b3b8af1b71fc1c94e9e04f13e7b0717549c7fa8328361243d1"), looks := true }, kinds := [], alts := [], laidByText := true, laidKinds := [.sentinel, .sentinel, .sentinel, .sentinel, .sentinel, .sentinel, .sentinel, .sentinel, .sentinel, .sentinel, .sentinel, .sentinel, .sentinel, .sentinel, .sentinel, .sentinel, .sentinel, .sentinel], laidTests := true, laidLooks := .later }
def PrimeInversesCardSaid : Prop := Claim7.holds Tryd.pinned (.plain (OpenSpec.ofChange primeInversesSpec)) primeInversesCard

/-- THE TIED CARD OF 'linkboylaw09.StridePlaces'. -/
def stridePlacesCard : Claim7 := { stood := { row := stridePlacesRow, standIns := [], harness := (true, "605fb9211220f1b3b8af1b71fc1c94e9e04f13e7b0717549c7fa8328361243d1"), looks := true }, kinds := [], alts := [], laidByText := true, laidKinds := [.sentinel, .sentinel], laidTests := true, laidLooks := .later }
def StridePlacesCardSaid : Prop := Claim7.holds Tryd.pinned (.plain (OpenSpec.ofChange stridePlacesSpec)) stridePlacesCard

/-- THE TIED CARD OF 'linkboylaw09.StrideOnce'. -/
def strideOnceCard : Claim7 := { stood := { row := strideOnceRow, standIns := [], harness := (true, "605fb9211220f1b3b8af1b71fc1c94e9e04f13e7b0717549c7fa8328361243d1"), looks := true }, kinds := [], alts := [], laidByText := true, laidKinds := [.sentinel, .sentinel], laidTests := true, laidLooks := .later }
def StrideOnceCardSaid : Prop := Claim7.holds Tryd.pinned (.plain (OpenSpec.ofChange strideOnceSpec)) strideOnceCard

/-- THE TIED CARD OF 'linkboylaw09.StrideOf'. -/
def strideOfCard : Claim7 := { stood := { row := strideOfRow, standIns := [], harness := (true, "605fb9211220f1b3b8af1b71fc1c94e9e04f13e7b0717549c7fa8328361243d1"), looks := true }, kinds := [], alts := [], laidByText := true, laidKinds := [.sentinel, .sentinel, .sentinel, .sentinel, .sentinel, .sentinel, .sentinel, .sentinel, .sentinel, .sentinel, .sentinel, .sentinel, .sentinel, .sentinel, .sentinel, .sentinel, .sentinel, .sentinel], laidTests := true, laidLooks := .later }
def StrideOfCardSaid : Prop := Claim7.holds Tryd.pinned (.plain (OpenSpec.ofChange strideOfSpec)) strideOfCard

/-- THE SECOND FORM's CARD OF 'linkboylaw08.PrimePowers'. -/
def primePowersUptoCard : Claim7 := { stood := { row := primePowersUptoRow, standIns := [], harness := (true, "605fb9211220f1b3b8af1b71fc1c94e9e04f13e7b0717549c7fa8328361243d1"), looks := true }, kinds := [], alts := [], laidByText := true, laidKinds := [.sentinel], laidTests := true, laidLooks := .later }
def PrimePowersUptoCardSaid : Prop := Claim7.holds Tryd.pinned (.plain (OpenSpec.upto primePowersSpec)) primePowersUptoCard

/-- THE SECOND FORM's CARD OF 'linkboylaw08.PrimeLists'. -/
def primeListsUptoCard : Claim7 := { stood := { row := primeListsUptoRow, standIns := [], harness := (true, "605fb9211220f1b3b8af1b71fc1c94e9e04f13e7b0717549c7fa8328361243d1"), looks := true }, kinds := [], alts := [], laidByText := true, laidKinds := [.sentinel], laidTests := true, laidLooks := .later }
def PrimeListsUptoCardSaid : Prop := Claim7.holds Tryd.pinned (.plain (OpenSpec.upto primeListsSpec)) primeListsUptoCard

/-- THE SECOND FORM's CARD OF 'linkboylaw08.PrimeIs'. -/
def primeIsUptoCard : Claim7 := { stood := { row := primeIsUptoRow, standIns := [], harness := (true, "605fb9211220f1b3b8af1b71fc1c94e9e04f13e7b0717549c7fa8328361243d1"), looks := true }, kinds := [], alts := [], laidByText := true, laidKinds := [.sentinel, .sentinel, .sentinel, .sentinel, .sentinel, .sentinel, .sentinel, .sentinel, .sentinel, .sentinel, .sentinel, .sentinel, .sentinel, .sentinel, .sentinel, .sentinel, .sentinel, .sentinel], laidTests := true, laidLooks := .later }
def PrimeIsUptoCardSaid : Prop := Claim7.holds Tryd.pinned (.plain (OpenSpec.upto primeIsSpec)) primeIsUptoCard

/-- THE SECOND FORM's CARD OF 'linkboylaw08.PrimeInverses'. -/
def primeInversesUptoCard : Claim7 := { stood := { row := primeInversesUptoRow, standIns := [], harness := (true, "605fb9211220f1b3b8af1b71fc1c94e9e04f13e7b0717549c7fa8328361243d1"), looks := true }, kinds := [], alts := [], laidByText := true, laidKinds := [.sentinel, .sentinel, .sentinel, .sentinel, .sentinel, .sentinel, .sentinel, .sentinel, .sentinel, .sentinel, .sentinel, .sentinel, .sentinel, .sentinel, .sentinel, .sentinel, .sentinel, .sentinel], laidTests := true, laidLooks := .later }
def PrimeInversesUptoCardSaid : Prop := Claim7.holds Tryd.pinned (.plain (OpenSpec.upto primeInversesSpec)) primeInversesUptoCard

/-- THE SECOND FORM's CARD OF 'linkboylaw09.StridePlaces'. -/
def stridePlacesUptoCard : Claim7 := { stood := { row := stridePlacesUptoRow, standIns := [], harness := (true, "605fb9211220f1b3b8af1b71fc1c94e9e04f13e7b0717549c7fa8328361243d1"), looks := true }, kinds := [], alts := [], laidByText := true, laidKinds := [.sentinel, .sentinel], laidTests := true, laidLooks := .later }
def StridePlacesUptoCardSaid : Prop := Claim7.holds Tryd.pinned (.plain (OpenSpec.upto stridePlacesSpec)) stridePlacesUptoCard

/-- THE SECOND FORM's CARD OF 'linkboylaw09.StrideOnce'. -/
def strideOnceUptoCard : Claim7 := { stood := { row := strideOnceUptoRow, standIns := [], harness := (true, "605fb9211220f1b3b8af1b71fc1c94e9e04f13e7b0717549c7fa8328361243d1"), looks := true }, kinds := [], alts := [], laidByText := true, laidKinds := [.sentinel, .sentinel], laidTests := true, laidLooks := .later }
def StrideOnceUptoCardSaid : Prop := Claim7.holds Tryd.pinned (.plain (OpenSpec.upto strideOnceSpec)) strideOnceUptoCard

/-- THE SECOND FORM's CARD OF 'linkboylaw09.StrideOf'. -/
def strideOfUptoCard : Claim7 := { stood := { row := strideOfUptoRow, standIns := [], harness := (true, "605fb9211220f1b3b8af1b71fc1c94e9e04f13e7b0717549c7fa8328361243d1"), looks := true }, kinds := [], alts := [], laidByText := true, laidKinds := [.sentinel, .sentinel, .sentinel, .sentinel, .sentinel, .sentinel, .sentinel, .sentinel, .sentinel, .sentinel, .sentinel, .sentinel, .sentinel, .sentinel, .sentinel, .sentinel, .sentinel, .sentinel], laidTests := true, laidLooks := .later }
def StrideOfUptoCardSaid : Prop := Claim7.holds Tryd.pinned (.plain (OpenSpec.upto strideOfSpec)) strideOfUptoCard
end Rows
end Go.Proofs.YtifdbjombgcfcaaDoor
