/-
  DERIVED. GIVEN WITH THE SEED: THE CARDS: each row of YtilhioiocfllhaaDoorRows.lean that lists a variable, with what it lists TIED to the program's text (the seventh form; the later family's looks); each row that meets fmt, with fmt's text TOLD by the authors' own Lean function (tested against real Go, not proved from fmt's source: count such statements apart). THE CARD IS WHAT COUNTS. Prove the row's statement (the work); the ties are given (YtilhioiocfllhaaDoorTie.lean); close each card by the builder's one call (the guide's Derived/Test/ToyasCard.lean, 'card_holds'). Laid BY PROGRAM, IN A SANDBOX (cutbox-door.mjs). By AI agents, Wed Nov 11 2026. No macro, syntax, notation, axiom, sorry.
-/
import Derived.Test.YtilhioiocfllhaaDoorRows
import GoSem.ClaimSeven
namespace Go.Proofs.YtilhioiocfllhaaDoor
namespace Rows

/-- THE TIED CARD OF 'linkboylaw01.OctetsWrites'. -/
def octetsWritesCard : Claim7 := { stood := { row := octetsWritesRow, standIns := [], harness := (true, "3ec46c2cf56c836d6585c7efd7c642935afa4951b1ae6cf0bf78bf13fb248a8b"), looks := true }, kinds := [], alts := [], laidByText := true, laidKinds := [.sentinel, .sentinel, .sentinel, .sentinel, .sentinel, .sentinel, .sentinel, .sentinel, .sentinel, .sentinel, .sentinel, .sentinel, .sentinel, .sentinel, .sentinel, .sentinel, .sentinel, .sentinel], laidTests := true, laidLooks := .later }
def OctetsWritesCardSaid : Prop := Claim7.holds Tryd.pinned (.plain (OpenSpec.ofChange octetsWritesSpec)) octetsWritesCard

/-- THE TIED CARD OF 'linkboylaw01.OctetsBack'. -/
def octetsBackCard : Claim7 := { stood := { row := octetsBackRow, standIns := [], harness := (true, "3ec46c2cf56c836d6585c7efd7c642935afa4951b1ae6cf0bf78bf13fb248a8b"), looks := true }, kinds := [], alts := [], laidByText := true, laidKinds := [.sentinel, .sentinel, .sentinel, .sentinel], laidTests := true, laidLooks := .later }
def OctetsBackCardSaid : Prop := Claim7.holds Tryd.pinned (.plain (OpenSpec.ofChange octetsBackSpec)) octetsBackCard

/-- THE TIED CARD OF 'linkboylaw28.HeadParses'. -/
def headParsesCard : Claim7 := { stood := { row := headParsesRow, standIns := [], harness := (true, "3ec46c2cf56c836d6585c7efd7c642935afa4951b1ae6cf0bf78bf13fb248a8b"), looks := true }, kinds := [], alts := [], laidByText := true, laidKinds := [.sentinel, .sentinel, .sentinel, .sentinel, .sentinel, .sentinel, .sentinel, .sentinel, .sentinel, .sentinel, .sentinel, .sentinel, .sentinel, .sentinel, .sentinel, .sentinel, .sentinel, .sentinel], laidTests := true, laidLooks := .later }
def HeadParsesCardSaid : Prop := Claim7.holds Tryd.pinned (.plain (OpenSpec.ofChange headParsesSpec)) headParsesCard

/-- THE TIED CARD OF 'linkboylaw28.HeadBuilds'. -/
def headBuildsCard : Claim7 := { stood := { row := headBuildsRow, standIns := [], harness := (true, "3ec46c2cf56c836d6585c7efd7c642935afa4951b1ae6cf0bf78bf13fb248a8b"), looks := true }, kinds := [], alts := [], laidByText := true, laidKinds := [.data, .sentinel, .sentinel, .sentinel, .sentinel, .sentinel, .sentinel, .sentinel, .sentinel, .sentinel, .sentinel, .sentinel, .sentinel, .sentinel, .sentinel, .sentinel, .sentinel, .sentinel, .sentinel, .pinned], laidTests := true, laidLooks := .later }
def HeadBuildsCardSaid : Prop := Claim7.holds Tryd.pinned (.plain (OpenSpec.ofChange headBuildsSpec)) headBuildsCard

/-- THE TIED CARD OF 'linkboylaw28.HeadBent'. -/
def headBentCard : Claim7 := { stood := { row := headBentRow, standIns := [], harness := (true, "3ec46c2cf56c836d6585c7efd7c642935afa4951b1ae6cf0bf78bf13fb248a8b"), looks := true }, kinds := [], alts := [], laidByText := true, laidKinds := [.data, .sentinel, .sentinel, .sentinel, .sentinel, .sentinel, .sentinel, .sentinel, .sentinel, .sentinel, .sentinel, .sentinel, .sentinel, .sentinel, .sentinel, .sentinel, .sentinel, .sentinel, .sentinel, .pinned], laidTests := true, laidLooks := .later }
def HeadBentCardSaid : Prop := Claim7.holds Tryd.pinned (.plain (OpenSpec.ofChange headBentSpec)) headBentCard

/-- THE TIED CARD OF 'linkboylaw29.NatEnds'. -/
def natEndsCard : Claim7 := { stood := { row := natEndsRow, standIns := [], harness := (true, "3ec46c2cf56c836d6585c7efd7c642935afa4951b1ae6cf0bf78bf13fb248a8b"), looks := true }, kinds := [], alts := [], laidByText := true, laidKinds := [.data, .sentinel, .sentinel, .sentinel, .sentinel, .sentinel, .sentinel, .sentinel, .sentinel, .sentinel, .sentinel, .sentinel, .sentinel, .sentinel, .sentinel, .sentinel, .sentinel, .sentinel, .sentinel, .pinned], laidTests := true, laidLooks := .later }
def NatEndsCardSaid : Prop := Claim7.holds Tryd.pinned (.plain (OpenSpec.ofChange natEndsSpec)) natEndsCard

/-- THE TIED CARD OF 'linkboylaw29.NatRight'. -/
def natRightCard : Claim7 := { stood := { row := natRightRow, standIns := [], harness := (true, "3ec46c2cf56c836d6585c7efd7c642935afa4951b1ae6cf0bf78bf13fb248a8b"), looks := true }, kinds := [], alts := [], laidByText := true, laidKinds := [.data, .sentinel, .sentinel, .sentinel, .sentinel, .sentinel, .sentinel, .sentinel, .sentinel, .sentinel, .sentinel, .sentinel, .sentinel, .sentinel, .sentinel, .sentinel, .sentinel, .sentinel, .sentinel, .pinned], laidTests := true, laidLooks := .later }
def NatRightCardSaid : Prop := Claim7.holds Tryd.pinned (.plain (OpenSpec.ofChange natRightSpec)) natRightCard

/-- THE TIED CARD OF 'linkboylaw29.NatBoth'. -/
def natBothCard : Claim7 := { stood := { row := natBothRow, standIns := [], harness := (true, "3ec46c2cf56c836d6585c7efd7c642935afa4951b1ae6cf0bf78bf13fb248a8b"), looks := true }, kinds := [], alts := [], laidByText := true, laidKinds := [.data, .sentinel, .sentinel, .sentinel, .sentinel, .sentinel, .sentinel, .sentinel, .sentinel, .sentinel, .sentinel, .sentinel, .sentinel, .sentinel, .sentinel, .sentinel, .sentinel, .sentinel, .sentinel, .pinned], laidTests := true, laidLooks := .later }
def NatBothCardSaid : Prop := Claim7.holds Tryd.pinned (.plain (OpenSpec.ofChange natBothSpec)) natBothCard

/-- THE SECOND FORM's CARD OF 'linkboylaw01.OctetsWrites'. -/
def octetsWritesUptoCard : Claim7 := { stood := { row := octetsWritesUptoRow, standIns := [], harness := (true, "3ec46c2cf56c836d6585c7efd7c642935afa4951b1ae6cf0bf78bf13fb248a8b"), looks := true }, kinds := [], alts := [], laidByText := true, laidKinds := [.sentinel, .sentinel, .sentinel, .sentinel, .sentinel, .sentinel, .sentinel, .sentinel, .sentinel, .sentinel, .sentinel, .sentinel, .sentinel, .sentinel, .sentinel, .sentinel, .sentinel, .sentinel], laidTests := true, laidLooks := .later }
def OctetsWritesUptoCardSaid : Prop := Claim7.holds Tryd.pinned (.plain (OpenSpec.upto octetsWritesSpec)) octetsWritesUptoCard

/-- THE SECOND FORM's CARD OF 'linkboylaw01.OctetsBack'. -/
def octetsBackUptoCard : Claim7 := { stood := { row := octetsBackUptoRow, standIns := [], harness := (true, "3ec46c2cf56c836d6585c7efd7c642935afa4951b1ae6cf0bf78bf13fb248a8b"), looks := true }, kinds := [], alts := [], laidByText := true, laidKinds := [.sentinel, .sentinel, .sentinel, .sentinel], laidTests := true, laidLooks := .later }
def OctetsBackUptoCardSaid : Prop := Claim7.holds Tryd.pinned (.plain (OpenSpec.upto octetsBackSpec)) octetsBackUptoCard

/-- THE SECOND FORM's CARD OF 'linkboylaw28.HeadParses'. -/
def headParsesUptoCard : Claim7 := { stood := { row := headParsesUptoRow, standIns := [], harness := (true, "3ec46c2cf56c836d6585c7efd7c642935afa4951b1ae6cf0bf78bf13fb248a8b"), looks := true }, kinds := [], alts := [], laidByText := true, laidKinds := [.sentinel, .sentinel, .sentinel, .sentinel, .sentinel, .sentinel, .sentinel, .sentinel, .sentinel, .sentinel, .sentinel, .sentinel, .sentinel, .sentinel, .sentinel, .sentinel, .sentinel, .sentinel], laidTests := true, laidLooks := .later }
def HeadParsesUptoCardSaid : Prop := Claim7.holds Tryd.pinned (.plain (OpenSpec.upto headParsesSpec)) headParsesUptoCard

/-- THE SECOND FORM's CARD OF 'linkboylaw28.HeadBuilds'. -/
def headBuildsUptoCard : Claim7 := { stood := { row := headBuildsUptoRow, standIns := [], harness := (true, "3ec46c2cf56c836d6585c7efd7c642935afa4951b1ae6cf0bf78bf13fb248a8b"), looks := true }, kinds := [], alts := [], laidByText := true, laidKinds := [.data, .sentinel, .sentinel, .sentinel, .sentinel, .sentinel, .sentinel, .sentinel, .sentinel, .sentinel, .sentinel, .sentinel, .sentinel, .sentinel, .sentinel, .sentinel, .sentinel, .sentinel, .sentinel, .pinned], laidTests := true, laidLooks := .later }
def HeadBuildsUptoCardSaid : Prop := Claim7.holds Tryd.pinned (.plain (OpenSpec.upto headBuildsSpec)) headBuildsUptoCard

/-- THE SECOND FORM's CARD OF 'linkboylaw28.HeadBent'. -/
def headBentUptoCard : Claim7 := { stood := { row := headBentUptoRow, standIns := [], harness := (true, "3ec46c2cf56c836d6585c7efd7c642935afa4951b1ae6cf0bf78bf13fb248a8b"), looks := true }, kinds := [], alts := [], laidByText := true, laidKinds := [.data, .sentinel, .sentinel, .sentinel, .sentinel, .sentinel, .sentinel, .sentinel, .sentinel, .sentinel, .sentinel, .sentinel, .sentinel, .sentinel, .sentinel, .sentinel, .sentinel, .sentinel, .sentinel, .pinned], laidTests := true, laidLooks := .later }
def HeadBentUptoCardSaid : Prop := Claim7.holds Tryd.pinned (.plain (OpenSpec.upto headBentSpec)) headBentUptoCard

/-- THE SECOND FORM's CARD OF 'linkboylaw29.NatEnds'. -/
def natEndsUptoCard : Claim7 := { stood := { row := natEndsUptoRow, standIns := [], harness := (true, "3ec46c2cf56c836d6585c7efd7c642935afa4951b1ae6cf0bf78bf13fb248a8b"), looks := true }, kinds := [], alts := [], laidByText := true, laidKinds := [.data, .sentinel, .sentinel, .sentinel, .sentinel, .sentinel, .sentinel, .sentinel, .sentinel, .sentinel, .sentinel, .sentinel, .sentinel, .sentinel, .sentinel, .sentinel, .sentinel, .sentinel, .sentinel, .pinned], laidTests := true, laidLooks := .later }
def NatEndsUptoCardSaid : Prop := Claim7.holds Tryd.pinned (.plain (OpenSpec.upto natEndsSpec)) natEndsUptoCard

/-- THE SECOND FORM's CARD OF 'linkboylaw29.NatRight'. -/
def natRightUptoCard : Claim7 := { stood := { row := natRightUptoRow, standIns := [], harness := (true, "3ec46c2cf56c836d6585c7efd7c642935afa4951b1ae6cf0bf78bf13fb248a8b"), looks := true }, kinds := [], alts := [], laidByText := true, laidKinds := [.data, .sentinel, .sentinel, .sentinel, .sentinel, .sentinel, .sentinel, .sentinel, .sentinel, .sentinel, .sentinel, .sentinel, .sentinel, .sentinel, .sentinel, .sentinel, .sentinel, .sentinel, .sentinel, .pinned], laidTests := true, laidLooks := .later }
def NatRightUptoCardSaid : Prop := Claim7.holds Tryd.pinned (.plain (OpenSpec.upto natRightSpec)) natRightUptoCard

/-- THE SECOND FORM's CARD OF 'linkboylaw29.NatBoth'. -/
def natBothUptoCard : Claim7 := { stood := { row := natBothUptoRow, standIns := [], harness := (true, "3ec46c2cf56c836d6585c7efd7c642935afa4951b1ae6cf0bf78bf13fb248a8b"), looks := true }, kinds := [], alts := [], laidByText := true, laidKinds := [.data, .sentinel, .sentinel, .sentinel, .sentinel, .sentinel, .sentinel, .sentinel, .sentinel, .sentinel, .sentinel, .sentinel, .sentinel, .sentinel, .sentinel, .sentinel, .sentinel, .sentinel, .sentinel, .pinned], laidTests := true, laidLooks := .later }
def NatBothUptoCardSaid : Prop := Claim7.holds Tryd.pinned (.plain (OpenSpec.upto natBothSpec)) natBothUptoCard
end Rows
end Go.Proofs.YtilhioiocfllhaaDoor
