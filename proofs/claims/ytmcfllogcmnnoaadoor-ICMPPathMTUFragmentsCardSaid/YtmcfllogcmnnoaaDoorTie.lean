/-
  DERIVED. GIVEN WITH THE SEED: THE PROGRAM's TIES (one call each: nine closed facts by the kernel) AND EACH ROW's TIE, after the 31st guide's Derived/Test/Toyas{Tie, Card}.lean. No idea stands in it: it is a product of the set-up. Laid BY PROGRAM, IN A SANDBOX (cutbox-door.mjs). By AI agents, Wed Nov 11 2026. No macro, syntax, notation, axiom, sorry.
-/
import Derived.Test.YtmcfllogcmnnoaaDoorRows
import Derived.LaidByTextLater
import Derived.SevenTiedAt
import Derived.LaidSub
import Derived.LaidOnce
namespace Go.Proofs.YtmcfllogcmnnoaaDoor
open Go
set_option maxRecDepth 100000
theorem seatTie1 : Tryd.prog.laidByTextLater [("stagepost/icmp.errShort", Rows.laid_stagepost_icmp_errShort), ("stagepost/icmp.errKind", Rows.laid_stagepost_icmp_errKind)] [.sentinel, .sentinel] true :=
  Program.laidByTextLater_by_one 47 8 2 (by kernel_rfl) (by kernel_rfl) (by kernel_rfl) (by kernel_rfl) (by kernel_rfl) (by kernel_rfl) (fun _ _ => by kernel_rfl)
theorem noOwnUnsafe : Tryd.pinned.checked.prog.headLifts.contains "ownunsafe" = false := by kernel_rfl
theorem tie : Tryd.prog.laidByTextLater [("stagepost/icmp.errShort", Rows.laid_stagepost_icmp_errShort), ("stagepost/icmp.errKind", Rows.laid_stagepost_icmp_errKind)] [.sentinel, .sentinel] true :=
  Program.laidByTextLater.sub seatTie1 ["stagepost/icmp.errShort", "stagepost/icmp.errKind"] (by kernel_rfl) (by kernel_rfl)
theorem iCMPMatchesReference_row_tie : Rows.iCMPMatchesReferenceRow.laidByTextAt .later Tryd.pinned [.sentinel, .sentinel] true :=
  OpenClaim.laidByTextAt_later rfl rfl tie noOwnUnsafe
theorem iCMPErrorsMatchReference_row_tie : Rows.iCMPErrorsMatchReferenceRow.laidByTextAt .later Tryd.pinned [.sentinel, .sentinel] true :=
  OpenClaim.laidByTextAt_later rfl rfl tie noOwnUnsafe
theorem iCMPRoundTrip_row_tie : Rows.iCMPRoundTripRow.laidByTextAt .later Tryd.pinned [.sentinel, .sentinel] true :=
  OpenClaim.laidByTextAt_later rfl rfl tie noOwnUnsafe
theorem iCMPCanonical_row_tie : Rows.iCMPCanonicalRow.laidByTextAt .later Tryd.pinned [.sentinel, .sentinel] true :=
  OpenClaim.laidByTextAt_later rfl rfl tie noOwnUnsafe
theorem iCMPDetectsByteErrors_row_tie : Rows.iCMPDetectsByteErrorsRow.laidByTextAt .later Tryd.pinned [.sentinel, .sentinel] true :=
  OpenClaim.laidByTextAt_later rfl rfl tie noOwnUnsafe
theorem iCMPQuotesDatagram_row_tie : Rows.iCMPQuotesDatagramRow.laidByTextAt .later Tryd.pinned [.sentinel, .sentinel] true :=
  OpenClaim.laidByTextAt_later rfl rfl tie noOwnUnsafe
theorem iCMPPathsMatchReference_row_tie : Rows.iCMPPathsMatchReferenceRow.laidByTextAt .later Tryd.pinned [.sentinel, .sentinel] true :=
  OpenClaim.laidByTextAt_later rfl rfl tie noOwnUnsafe
theorem iCMPPathMTUNeverGrows_row_tie : Rows.iCMPPathMTUNeverGrowsRow.laidByTextAt .later Tryd.pinned [.sentinel, .sentinel] true :=
  OpenClaim.laidByTextAt_later rfl rfl tie noOwnUnsafe
theorem iCMPPathMTUExpires_row_tie : Rows.iCMPPathMTUExpiresRow.laidByTextAt .later Tryd.pinned [.sentinel, .sentinel] true :=
  OpenClaim.laidByTextAt_later rfl rfl tie noOwnUnsafe
theorem iCMPPathMTUFragments_row_tie : Rows.iCMPPathMTUFragmentsRow.laidByTextAt .later Tryd.pinned [.sentinel, .sentinel] true :=
  OpenClaim.laidByTextAt_later rfl rfl tie noOwnUnsafe
theorem iCMPMatchesReferenceUpto_row_tie : Rows.iCMPMatchesReferenceUptoRow.laidByTextAt .later Tryd.pinned [.sentinel, .sentinel] true :=
  OpenClaim.laidByTextAt_later rfl rfl tie noOwnUnsafe
theorem iCMPErrorsMatchReferenceUpto_row_tie : Rows.iCMPErrorsMatchReferenceUptoRow.laidByTextAt .later Tryd.pinned [.sentinel, .sentinel] true :=
  OpenClaim.laidByTextAt_later rfl rfl tie noOwnUnsafe
theorem iCMPRoundTripUpto_row_tie : Rows.iCMPRoundTripUptoRow.laidByTextAt .later Tryd.pinned [.sentinel, .sentinel] true :=
  OpenClaim.laidByTextAt_later rfl rfl tie noOwnUnsafe
theorem iCMPCanonicalUpto_row_tie : Rows.iCMPCanonicalUptoRow.laidByTextAt .later Tryd.pinned [.sentinel, .sentinel] true :=
  OpenClaim.laidByTextAt_later rfl rfl tie noOwnUnsafe
theorem iCMPDetectsByteErrorsUpto_row_tie : Rows.iCMPDetectsByteErrorsUptoRow.laidByTextAt .later Tryd.pinned [.sentinel, .sentinel] true :=
  OpenClaim.laidByTextAt_later rfl rfl tie noOwnUnsafe
theorem iCMPQuotesDatagramUpto_row_tie : Rows.iCMPQuotesDatagramUptoRow.laidByTextAt .later Tryd.pinned [.sentinel, .sentinel] true :=
  OpenClaim.laidByTextAt_later rfl rfl tie noOwnUnsafe
theorem iCMPPathsMatchReferenceUpto_row_tie : Rows.iCMPPathsMatchReferenceUptoRow.laidByTextAt .later Tryd.pinned [.sentinel, .sentinel] true :=
  OpenClaim.laidByTextAt_later rfl rfl tie noOwnUnsafe
theorem iCMPPathMTUNeverGrowsUpto_row_tie : Rows.iCMPPathMTUNeverGrowsUptoRow.laidByTextAt .later Tryd.pinned [.sentinel, .sentinel] true :=
  OpenClaim.laidByTextAt_later rfl rfl tie noOwnUnsafe
theorem iCMPPathMTUExpiresUpto_row_tie : Rows.iCMPPathMTUExpiresUptoRow.laidByTextAt .later Tryd.pinned [.sentinel, .sentinel] true :=
  OpenClaim.laidByTextAt_later rfl rfl tie noOwnUnsafe
theorem iCMPPathMTUFragmentsUpto_row_tie : Rows.iCMPPathMTUFragmentsUptoRow.laidByTextAt .later Tryd.pinned [.sentinel, .sentinel] true :=
  OpenClaim.laidByTextAt_later rfl rfl tie noOwnUnsafe
end Go.Proofs.YtmcfllogcmnnoaaDoor
