/-
  DERIVED. GIVEN WITH THE SEED: THE CARDS: each row of YtmcfllogcmnnoaaDoorRows.lean that lists a variable, with what it lists TIED to the program's text (the seventh form; the later family's looks); each row that meets fmt, with fmt's text TOLD by the authors' own Lean function (tested against real Go, not proved from fmt's source: count such statements apart). THE CARD IS WHAT COUNTS. Prove the row's statement (the work); the ties are given (YtmcfllogcmnnoaaDoorTie.lean); close each card by the builder's one call (the guide's Derived/Test/ToyasCard.lean, 'card_holds'). Laid BY PROGRAM, IN A SANDBOX (cutbox-door.mjs). By AI agents, Wed Nov 11 2026. No macro, syntax, notation, axiom, sorry.
-/
import Derived.Test.YtmcfllogcmnnoaaDoorRows
import GoSem.ClaimSeven
namespace Go.Proofs.YtmcfllogcmnnoaaDoor
namespace Rows

/-- THE TIED CARD OF 'stagepostlaw08.ICMPMatchesReference'. -/
def iCMPMatchesReferenceCard : Claim7 := { stood := { row := iCMPMatchesReferenceRow, standIns := [], harness := (true, "26a430306cc406d133a7f4602aa558a46a7575da3c23659b455fdd3e2a46cbeb"), looks := true }, kinds := [], alts := [], laidByText := true, laidKinds := [.sentinel, .sentinel], laidTests := true, laidLooks := .later }
def ICMPMatchesReferenceCardSaid : Prop := Claim7.holds Tryd.pinned (.plain (OpenSpec.ofChange iCMPMatchesReferenceSpec)) iCMPMatchesReferenceCard

/-- THE TIED CARD OF 'stagepostlaw08.ICMPErrorsMatchReference'. -/
def iCMPErrorsMatchReferenceCard : Claim7 := { stood := { row := iCMPErrorsMatchReferenceRow, standIns := [], harness := (true, "26a430306cc406d133a7f4602aa558a46a7575da3c23659b455fdd3e2a46cbeb"), looks := true }, kinds := [], alts := [], laidByText := true, laidKinds := [.sentinel, .sentinel], laidTests := true, laidLooks := .later }
def ICMPErrorsMatchReferenceCardSaid : Prop := Claim7.holds Tryd.pinned (.plain (OpenSpec.ofChange iCMPErrorsMatchReferenceSpec)) iCMPErrorsMatchReferenceCard

/-- THE TIED CARD OF 'stagepostlaw08.ICMPRoundTrip'. -/
def iCMPRoundTripCard : Claim7 := { stood := { row := iCMPRoundTripRow, standIns := [], harness := (true, "26a430306cc406d133a7f4602aa558a46a7575da3c23659b455fdd3e2a46cbeb"), looks := true }, kinds := [], alts := [], laidByText := true, laidKinds := [.sentinel, .sentinel], laidTests := true, laidLooks := .later }
def ICMPRoundTripCardSaid : Prop := Claim7.holds Tryd.pinned (.plain (OpenSpec.ofChange iCMPRoundTripSpec)) iCMPRoundTripCard

/-- THE TIED CARD OF 'stagepostlaw08.ICMPCanonical'. -/
def iCMPCanonicalCard : Claim7 := { stood := { row := iCMPCanonicalRow, standIns := [], harness := (true, "26a430306cc406d133a7f4602aa558a46a7575da3c23659b455fdd3e2a46cbeb"), looks := true }, kinds := [], alts := [], laidByText := true, laidKinds := [.sentinel, .sentinel], laidTests := true, laidLooks := .later }
def ICMPCanonicalCardSaid : Prop := Claim7.holds Tryd.pinned (.plain (OpenSpec.ofChange iCMPCanonicalSpec)) iCMPCanonicalCard

/-- THE TIED CARD OF 'stagepostlaw08.ICMPDetectsByteErrors'. -/
def iCMPDetectsByteErrorsCard : Claim7 := { stood := { row := iCMPDetectsByteErrorsRow, standIns := [], harness := (true, "26a430306cc406d133a7f4602aa558a46a7575da3c23659b455fdd3e2a46cbeb"), looks := true }, kinds := [], alts := [], laidByText := true, laidKinds := [.sentinel, .sentinel], laidTests := true, laidLooks := .later }
def ICMPDetectsByteErrorsCardSaid : Prop := Claim7.holds Tryd.pinned (.plain (OpenSpec.ofChange iCMPDetectsByteErrorsSpec)) iCMPDetectsByteErrorsCard

/-- THE TIED CARD OF 'stagepostlaw08.ICMPQuotesDatagram'. -/
def iCMPQuotesDatagramCard : Claim7 := { stood := { row := iCMPQuotesDatagramRow, standIns := [], harness := (true, "26a430306cc406d133a7f4602aa558a46a7575da3c23659b455fdd3e2a46cbeb"), looks := true }, kinds := [], alts := [], laidByText := true, laidKinds := [.sentinel, .sentinel], laidTests := true, laidLooks := .later }
def ICMPQuotesDatagramCardSaid : Prop := Claim7.holds Tryd.pinned (.plain (OpenSpec.ofChange iCMPQuotesDatagramSpec)) iCMPQuotesDatagramCard

/-- THE TIED CARD OF 'stagepostlaw08.ICMPPathsMatchReference'. -/
def iCMPPathsMatchReferenceCard : Claim7 := { stood := { row := iCMPPathsMatchReferenceRow, standIns := [], harness := (true, "26a430306cc406d133a7f4602aa558a46a7575da3c23659b455fdd3e2a46cbeb"), looks := true }, kinds := [], alts := [], laidByText := true, laidKinds := [.sentinel, .sentinel], laidTests := true, laidLooks := .later }
def ICMPPathsMatchReferenceCardSaid : Prop := Claim7.holds Tryd.pinned (.plain (OpenSpec.ofChange iCMPPathsMatchReferenceSpec)) iCMPPathsMatchReferenceCard

/-- THE TIED CARD OF 'stagepostlaw08.ICMPPathMTUNeverGrows'. -/
def iCMPPathMTUNeverGrowsCard : Claim7 := { stood := { row := iCMPPathMTUNeverGrowsRow, standIns := [], harness := (true, "26a430306cc406d133a7f4602aa558a46a7575da3c23659b455fdd3e2a46cbeb"), looks := true }, kinds := [], alts := [], laidByText := true, laidKinds := [.sentinel, .sentinel], laidTests := true, laidLooks := .later }
def ICMPPathMTUNeverGrowsCardSaid : Prop := Claim7.holds Tryd.pinned (.plain (OpenSpec.ofChange iCMPPathMTUNeverGrowsSpec)) iCMPPathMTUNeverGrowsCard

/-- THE TIED CARD OF 'stagepostlaw08.ICMPPathMTUExpires'. -/
def iCMPPathMTUExpiresCard : Claim7 := { stood := { row := iCMPPathMTUExpiresRow, standIns := [], harness := (true, "26a430306cc406d133a7f4602aa558a46a7575da3c23659b455fdd3e2a46cbeb"), looks := true }, kinds := [], alts := [], laidByText := true, laidKinds := [.sentinel, .sentinel], laidTests := true, laidLooks := .later }
def ICMPPathMTUExpiresCardSaid : Prop := Claim7.holds Tryd.pinned (.plain (OpenSpec.ofChange iCMPPathMTUExpiresSpec)) iCMPPathMTUExpiresCard

/-- THE TIED CARD OF 'stagepostlaw08.ICMPPathMTUFragments'. -/
def iCMPPathMTUFragmentsCard : Claim7 := { stood := { row := iCMPPathMTUFragmentsRow, standIns := [], harness := (true, "26a430306cc406d133a7f4602aa558a46a7575da3c23659b455fdd3e2a46cbeb"), looks := true }, kinds := [], alts := [], laidByText := true, laidKinds := [.sentinel, .sentinel], laidTests := true, laidLooks := .later }
def ICMPPathMTUFragmentsCardSaid : Prop := Claim7.holds Tryd.pinned (.plain (OpenSpec.ofChange iCMPPathMTUFragmentsSpec)) iCMPPathMTUFragmentsCard

/-- THE SECOND FORM's CARD OF 'stagepostlaw08.ICMPMatchesReference'. -/
def iCMPMatchesReferenceUptoCard : Claim7 := { stood := { row := iCMPMatchesReferenceUptoRow, standIns := [], harness := (true, "26a430306cc406d133a7f4602aa558a46a7575da3c23659b455fdd3e2a46cbeb"), looks := true }, kinds := [], alts := [], laidByText := true, laidKinds := [.sentinel, .sentinel], laidTests := true, laidLooks := .later }
def ICMPMatchesReferenceUptoCardSaid : Prop := Claim7.holds Tryd.pinned (.plain (OpenSpec.upto iCMPMatchesReferenceSpec)) iCMPMatchesReferenceUptoCard

/-- THE SECOND FORM's CARD OF 'stagepostlaw08.ICMPErrorsMatchReference'. -/
def iCMPErrorsMatchReferenceUptoCard : Claim7 := { stood := { row := iCMPErrorsMatchReferenceUptoRow, standIns := [], harness := (true, "26a430306cc406d133a7f4602aa558a46a7575da3c23659b455fdd3e2a46cbeb"), looks := true }, kinds := [], alts := [], laidByText := true, laidKinds := [.sentinel, .sentinel], laidTests := true, laidLooks := .later }
def ICMPErrorsMatchReferenceUptoCardSaid : Prop := Claim7.holds Tryd.pinned (.plain (OpenSpec.upto iCMPErrorsMatchReferenceSpec)) iCMPErrorsMatchReferenceUptoCard

/-- THE SECOND FORM's CARD OF 'stagepostlaw08.ICMPRoundTrip'. -/
def iCMPRoundTripUptoCard : Claim7 := { stood := { row := iCMPRoundTripUptoRow, standIns := [], harness := (true, "26a430306cc406d133a7f4602aa558a46a7575da3c23659b455fdd3e2a46cbeb"), looks := true }, kinds := [], alts := [], laidByText := true, laidKinds := [.sentinel, .sentinel], laidTests := true, laidLooks := .later }
def ICMPRoundTripUptoCardSaid : Prop := Claim7.holds Tryd.pinned (.plain (OpenSpec.upto iCMPRoundTripSpec)) iCMPRoundTripUptoCard

/-- THE SECOND FORM's CARD OF 'stagepostlaw08.ICMPCanonical'. -/
def iCMPCanonicalUptoCard : Claim7 := { stood := { row := iCMPCanonicalUptoRow, standIns := [], harness := (true, "26a430306cc406d133a7f4602aa558a46a7575da3c23659b455fdd3e2a46cbeb"), looks := true }, kinds := [], alts := [], laidByText := true, laidKinds := [.sentinel, .sentinel], laidTests := true, laidLooks := .later }
def ICMPCanonicalUptoCardSaid : Prop := Claim7.holds Tryd.pinned (.plain (OpenSpec.upto iCMPCanonicalSpec)) iCMPCanonicalUptoCard

/-- THE SECOND FORM's CARD OF 'stagepostlaw08.ICMPDetectsByteErrors'. -/
def iCMPDetectsByteErrorsUptoCard : Claim7 := { stood := { row := iCMPDetectsByteErrorsUptoRow, standIns := [], harness := (true, "26a430306cc406d133a7f4602aa558a46a7575da3c23659b455fdd3e2a46cbeb"), looks := true }, kinds := [], alts := [], laidByText := true, laidKinds := [.sentinel, .sentinel], laidTests := true, laidLooks := .later }
def ICMPDetectsByteErrorsUptoCardSaid : Prop := Claim7.holds Tryd.pinned (.plain (OpenSpec.upto iCMPDetectsByteErrorsSpec)) iCMPDetectsByteErrorsUptoCard

/-- THE SECOND FORM's CARD OF 'stagepostlaw08.ICMPQuotesDatagram'. -/
def iCMPQuotesDatagramUptoCard : Claim7 := { stood := { row := iCMPQuotesDatagramUptoRow, standIns := [], harness := (true, "26a430306cc406d133a7f4602aa558a46a7575da3c23659b455fdd3e2a46cbeb"), looks := true }, kinds := [], alts := [], laidByText := true, laidKinds := [.sentinel, .sentinel], laidTests := true, laidLooks := .later }
def ICMPQuotesDatagramUptoCardSaid : Prop := Claim7.holds Tryd.pinned (.plain (OpenSpec.upto iCMPQuotesDatagramSpec)) iCMPQuotesDatagramUptoCard

/-- THE SECOND FORM's CARD OF 'stagepostlaw08.ICMPPathsMatchReference'. -/
def iCMPPathsMatchReferenceUptoCard : Claim7 := { stood := { row := iCMPPathsMatchReferenceUptoRow, standIns := [], harness := (true, "26a430306cc406d133a7f4602aa558a46a7575da3c23659b455fdd3e2a46cbeb"), looks := true }, kinds := [], alts := [], laidByText := true, laidKinds := [.sentinel, .sentinel], laidTests := true, laidLooks := .later }
def ICMPPathsMatchReferenceUptoCardSaid : Prop := Claim7.holds Tryd.pinned (.plain (OpenSpec.upto iCMPPathsMatchReferenceSpec)) iCMPPathsMatchReferenceUptoCard

/-- THE SECOND FORM's CARD OF 'stagepostlaw08.ICMPPathMTUNeverGrows'. -/
def iCMPPathMTUNeverGrowsUptoCard : Claim7 := { stood := { row := iCMPPathMTUNeverGrowsUptoRow, standIns := [], harness := (true, "26a430306cc406d133a7f4602aa558a46a7575da3c23659b455fdd3e2a46cbeb"), looks := true }, kinds := [], alts := [], laidByText := true, laidKinds := [.sentinel, .sentinel], laidTests := true, laidLooks := .later }
def ICMPPathMTUNeverGrowsUptoCardSaid : Prop := Claim7.holds Tryd.pinned (.plain (OpenSpec.upto iCMPPathMTUNeverGrowsSpec)) iCMPPathMTUNeverGrowsUptoCard

/-- THE SECOND FORM's CARD OF 'stagepostlaw08.ICMPPathMTUExpires'. -/
def iCMPPathMTUExpiresUptoCard : Claim7 := { stood := { row := iCMPPathMTUExpiresUptoRow, standIns := [], harness := (true, "26a430306cc406d133a7f4602aa558a46a7575da3c23659b455fdd3e2a46cbeb"), looks := true }, kinds := [], alts := [], laidByText := true, laidKinds := [.sentinel, .sentinel], laidTests := true, laidLooks := .later }
def ICMPPathMTUExpiresUptoCardSaid : Prop := Claim7.holds Tryd.pinned (.plain (OpenSpec.upto iCMPPathMTUExpiresSpec)) iCMPPathMTUExpiresUptoCard

/-- THE SECOND FORM's CARD OF 'stagepostlaw08.ICMPPathMTUFragments'. -/
def iCMPPathMTUFragmentsUptoCard : Claim7 := { stood := { row := iCMPPathMTUFragmentsUptoRow, standIns := [], harness := (true, "26a430306cc406d133a7f4602aa558a46a7575da3c23659b455fdd3e2a46cbeb"), looks := true }, kinds := [], alts := [], laidByText := true, laidKinds := [.sentinel, .sentinel], laidTests := true, laidLooks := .later }
def ICMPPathMTUFragmentsUptoCardSaid : Prop := Claim7.holds Tryd.pinned (.plain (OpenSpec.upto iCMPPathMTUFragmentsSpec)) iCMPPathMTUFragmentsUptoCard
end Rows
end Go.Proofs.YtmcfllogcmnnoaaDoor
