/-
  DERIVED. GIVEN WITH THE SEED: THE CARDS: each row of YtmgjcjacoegocaaDoorRows.lean that lists a variable, with what it lists TIED to the program's text (the seventh form; the later family's looks); each row that meets fmt, with fmt's text TOLD by the authors' own Lean function (tested against real Go, not proved from fmt's source: count such statements apart). THE CARD IS WHAT COUNTS. Prove the row's statement (the work); the ties are given (YtmgjcjacoegocaaDoorTie.lean); close each card by the builder's one call (the guide's Derived/Test/ToyasCard.lean, 'card_holds'). Laid BY PROGRAM, IN A SANDBOX (cutbox-door.mjs). By AI agents, Wed Nov 11 2026. No macro, syntax, notation, axiom, sorry.
-/
import Derived.Test.YtmgjcjacoegocaaDoorRows
import GoSem.ClaimSeven
namespace Go.Proofs.YtmgjcjacoegocaaDoor
namespace Rows

/-- THE TIED CARD OF 'stagepostlaw11.SegmentThroughFragments'. -/
def segmentThroughFragmentsCard : Claim7 := { stood := { row := segmentThroughFragmentsRow, standIns := [], harness := (true, "c7a88d54cb53175766320265ffee921c8527a314efaf3a9ff7268485d0d2894c"), looks := true }, kinds := [], alts := [], laidByText := true, laidKinds := [.sentinel], laidTests := true, laidLooks := .later }
def SegmentThroughFragmentsCardSaid : Prop := Claim7.holds Tryd.pinned (.plain (OpenSpec.ofChange segmentThroughFragmentsSpec)) segmentThroughFragmentsCard

/-- THE TIED CARD OF 'stagepostlaw05.ARPLink'. -/
def aRPLinkCard : Claim7 := { stood := { row := aRPLinkRow, standIns := [], harness := (true, "c7a88d54cb53175766320265ffee921c8527a314efaf3a9ff7268485d0d2894c"), looks := true }, kinds := [], alts := [], laidByText := true, laidKinds := [.sentinel], laidTests := true, laidLooks := .later }
def ARPLinkCardSaid : Prop := Claim7.holds Tryd.pinned (.plain (OpenSpec.ofChange aRPLinkSpec)) aRPLinkCard

/-- THE SECOND FORM's CARD OF 'stagepostlaw11.SegmentThroughFragments'. -/
def segmentThroughFragmentsUptoCard : Claim7 := { stood := { row := segmentThroughFragmentsUptoRow, standIns := [], harness := (true, "c7a88d54cb53175766320265ffee921c8527a314efaf3a9ff7268485d0d2894c"), looks := true }, kinds := [], alts := [], laidByText := true, laidKinds := [.sentinel], laidTests := true, laidLooks := .later }
def SegmentThroughFragmentsUptoCardSaid : Prop := Claim7.holds Tryd.pinned (.plain (OpenSpec.upto segmentThroughFragmentsSpec)) segmentThroughFragmentsUptoCard

/-- THE SECOND FORM's CARD OF 'stagepostlaw05.ARPLink'. -/
def aRPLinkUptoCard : Claim7 := { stood := { row := aRPLinkUptoRow, standIns := [], harness := (true, "c7a88d54cb53175766320265ffee921c8527a314efaf3a9ff7268485d0d2894c"), looks := true }, kinds := [], alts := [], laidByText := true, laidKinds := [.sentinel], laidTests := true, laidLooks := .later }
def ARPLinkUptoCardSaid : Prop := Claim7.holds Tryd.pinned (.plain (OpenSpec.upto aRPLinkSpec)) aRPLinkUptoCard
end Rows
end Go.Proofs.YtmgjcjacoegocaaDoor
