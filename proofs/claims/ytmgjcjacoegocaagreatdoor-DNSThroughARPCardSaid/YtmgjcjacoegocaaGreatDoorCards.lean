/-
  DERIVED. GIVEN WITH THE SEED: THE CARDS: each row of YtmgjcjacoegocaaGreatDoorRows.lean that lists a variable, with what it lists TIED to the program's text (the seventh form; the later family's looks); each row that meets fmt, with fmt's text TOLD by the authors' own Lean function (tested against real Go, not proved from fmt's source: count such statements apart). THE CARD IS WHAT COUNTS. Prove the row's statement (the work); the ties are given (YtmgjcjacoegocaaGreatDoorTie.lean); close each card by the builder's one call (the guide's Derived/Test/ToyasCard.lean, 'card_holds'). Laid BY PROGRAM, IN A SANDBOX (cutbox-door.mjs). By AI agents, Wed Nov 11 2026. No macro, syntax, notation, axiom, sorry.
-/
import Derived.Test.YtmgjcjacoegocaaGreatDoorRows
import GoSem.ClaimSeven
namespace Go.Proofs.YtmgjcjacoegocaaGreatDoor
namespace Rows

/-- THE TIED CARD OF 'stagepostlaw19.DNSThroughFragments'. -/
def dNSThroughFragmentsCard : Claim7 := { stood := { row := dNSThroughFragmentsRow, standIns := [], harness := (true, "09f607df7d8e5a884822e032b3cf010abfad1fb51c32a9e97d7586f20f1c23d7"), looks := true }, kinds := [], alts := [], laidByText := true, laidKinds := [.sentinel], laidTests := true, laidLooks := .later }
def DNSThroughFragmentsCardSaid : Prop := Claim7.holds Tryz.pinned (.plain (OpenSpec.ofChange dNSThroughFragmentsSpec)) dNSThroughFragmentsCard

/-- THE TIED CARD OF 'stagepostlaw19.DNSThroughARP'. -/
def dNSThroughARPCard : Claim7 := { stood := { row := dNSThroughARPRow, standIns := [], harness := (true, "09f607df7d8e5a884822e032b3cf010abfad1fb51c32a9e97d7586f20f1c23d7"), looks := true }, kinds := [], alts := [], laidByText := true, laidKinds := [.sentinel], laidTests := true, laidLooks := .later }
def DNSThroughARPCardSaid : Prop := Claim7.holds Tryz.pinned (.plain (OpenSpec.ofChange dNSThroughARPSpec)) dNSThroughARPCard

/-- THE SECOND FORM's CARD OF 'stagepostlaw19.DNSThroughFragments'. -/
def dNSThroughFragmentsUptoCard : Claim7 := { stood := { row := dNSThroughFragmentsUptoRow, standIns := [], harness := (true, "09f607df7d8e5a884822e032b3cf010abfad1fb51c32a9e97d7586f20f1c23d7"), looks := true }, kinds := [], alts := [], laidByText := true, laidKinds := [.sentinel], laidTests := true, laidLooks := .later }
def DNSThroughFragmentsUptoCardSaid : Prop := Claim7.holds Tryz.pinned (.plain (OpenSpec.upto dNSThroughFragmentsSpec)) dNSThroughFragmentsUptoCard

/-- THE SECOND FORM's CARD OF 'stagepostlaw19.DNSThroughARP'. -/
def dNSThroughARPUptoCard : Claim7 := { stood := { row := dNSThroughARPUptoRow, standIns := [], harness := (true, "09f607df7d8e5a884822e032b3cf010abfad1fb51c32a9e97d7586f20f1c23d7"), looks := true }, kinds := [], alts := [], laidByText := true, laidKinds := [.sentinel], laidTests := true, laidLooks := .later }
def DNSThroughARPUptoCardSaid : Prop := Claim7.holds Tryz.pinned (.plain (OpenSpec.upto dNSThroughARPSpec)) dNSThroughARPUptoCard
end Rows
end Go.Proofs.YtmgjcjacoegocaaGreatDoor
