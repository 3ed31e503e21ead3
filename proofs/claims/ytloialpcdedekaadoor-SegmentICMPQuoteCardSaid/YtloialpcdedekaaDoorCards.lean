/-
  DERIVED. GIVEN WITH THE SEED: THE CARDS: each row of YtloialpcdedekaaDoorRows.lean that lists a variable, with what it lists TIED to the program's text (the seventh form; the later family's looks); each row that meets fmt, with fmt's text TOLD by the authors' own Lean function (tested against real Go, not proved from fmt's source: count such statements apart). THE CARD IS WHAT COUNTS. Prove the row's statement (the work); the ties are given (YtloialpcdedekaaDoorTie.lean); close each card by the builder's one call (the guide's Derived/Test/ToyasCard.lean, 'card_holds'). Laid BY PROGRAM, IN A SANDBOX (cutbox-door.mjs). By AI agents, Wed Nov 11 2026. No macro, syntax, notation, axiom, sorry.
-/
import Derived.Test.YtloialpcdedekaaDoorRows
import GoSem.ClaimSeven
namespace Go.Proofs.YtloialpcdedekaaDoor
namespace Rows

/-- THE TIED CARD OF 'stagepostlaw11.SegmentICMPQuote'. -/
def segmentICMPQuoteCard : Claim7 := { stood := { row := segmentICMPQuoteRow, standIns := [], harness := (true, "12b07a39ab0ab5942778686cc8e0a3686429bbfd8c7bd397ec1a35975758a8ad"), looks := true }, kinds := [], alts := [], laidByText := true, laidKinds := [.sentinel, .sentinel], laidTests := true, laidLooks := .later }
def SegmentICMPQuoteCardSaid : Prop := Claim7.holds Tryd.pinned (.plain (OpenSpec.ofChange segmentICMPQuoteSpec)) segmentICMPQuoteCard

/-- THE SECOND FORM's CARD OF 'stagepostlaw11.SegmentICMPQuote'. -/
def segmentICMPQuoteUptoCard : Claim7 := { stood := { row := segmentICMPQuoteUptoRow, standIns := [], harness := (true, "12b07a39ab0ab5942778686cc8e0a3686429bbfd8c7bd397ec1a35975758a8ad"), looks := true }, kinds := [], alts := [], laidByText := true, laidKinds := [.sentinel, .sentinel], laidTests := true, laidLooks := .later }
def SegmentICMPQuoteUptoCardSaid : Prop := Claim7.holds Tryd.pinned (.plain (OpenSpec.upto segmentICMPQuoteSpec)) segmentICMPQuoteUptoCard
end Rows
end Go.Proofs.YtloialpcdedekaaDoor
