/-
  DERIVED. GIVEN WITH THE SEED: THE CARDS: each row of YtpiohahfdekmhaaDoorRows.lean that lists a variable, with what it lists TIED to the program's text (the seventh form; the later family's looks); each row that meets fmt, with fmt's text TOLD by the authors' own Lean function (tested against real Go, not proved from fmt's source: count such statements apart). THE CARD IS WHAT COUNTS. Prove the row's statement (the work); the ties are given (YtpiohahfdekmhaaDoorTie.lean); close each card by the builder's one call (the guide's Derived/Test/ToyasCard.lean, 'card_holds'). Laid BY PROGRAM, IN A SANDBOX (cutbox-door.mjs). By AI agents, Wed Nov 11 2026. No macro, syntax, notation, axiom, sorry.
-/
import Derived.Test.YtpiohahfdekmhaaDoorRows
import GoSem.ClaimSeven
namespace Go.Proofs.YtpiohahfdekmhaaDoor
namespace Rows

/-- THE TIED CARD OF 'stagepostlaw06.IPInFrame'. -/
def iPInFrameCard : Claim7 := { stood := { row := iPInFrameRow, standIns := [], harness := (true, "4ce04a8aab5dfe0dc2e8d4cc4605d0cd5bb026a61fc298b9881812285494d2ab"), looks := true }, kinds := [], alts := [], laidByText := true, laidKinds := [.sentinel], laidTests := true, laidLooks := .later }
def IPInFrameCardSaid : Prop := Claim7.holds Tryd.pinned (.plain (OpenSpec.ofChange iPInFrameSpec)) iPInFrameCard

/-- THE SECOND FORM's CARD OF 'stagepostlaw06.IPInFrame'. -/
def iPInFrameUptoCard : Claim7 := { stood := { row := iPInFrameUptoRow, standIns := [], harness := (true, "4ce04a8aab5dfe0dc2e8d4cc4605d0cd5bb026a61fc298b9881812285494d2ab"), looks := true }, kinds := [], alts := [], laidByText := true, laidKinds := [.sentinel], laidTests := true, laidLooks := .later }
def IPInFrameUptoCardSaid : Prop := Claim7.holds Tryd.pinned (.plain (OpenSpec.upto iPInFrameSpec)) iPInFrameUptoCard
end Rows
end Go.Proofs.YtpiohahfdekmhaaDoor
