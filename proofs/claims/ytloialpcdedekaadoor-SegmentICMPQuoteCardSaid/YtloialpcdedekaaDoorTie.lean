/-
  DERIVED. GIVEN WITH THE SEED: THE PROGRAM's TIES (one call each: nine closed facts by the kernel) AND EACH ROW's TIE, after the 31st guide's Derived/Test/Toyas{Tie, Card}.lean. No idea stands in it: it is a product of the set-up. Laid BY PROGRAM, IN A SANDBOX (cutbox-door.mjs). By AI agents, Wed Nov 11 2026. No macro, syntax, notation, axiom, sorry.
-/
import Derived.Test.YtloialpcdedekaaDoorRows
import Derived.LaidByTextLater
import Derived.SevenTiedAt
import Derived.LaidSub
import Derived.LaidOnce
namespace Go.Proofs.YtloialpcdedekaaDoor
open Go
set_option maxRecDepth 100000
theorem seatTie1 : Tryd.prog.laidByTextLater [("stagepost/icmp.errShort", Rows.laid_stagepost_icmp_errShort), ("stagepost/icmp.errKind", Rows.laid_stagepost_icmp_errKind)] [.sentinel, .sentinel] true :=
  Program.laidByTextLater_by_one 47 8 2 (by kernel_rfl) (by kernel_rfl) (by kernel_rfl) (by kernel_rfl) (by kernel_rfl) (by kernel_rfl) (fun _ _ => by kernel_rfl)
theorem noOwnUnsafe : Tryd.pinned.checked.prog.headLifts.contains "ownunsafe" = false := by kernel_rfl
theorem tie : Tryd.prog.laidByTextLater [("stagepost/icmp.errShort", Rows.laid_stagepost_icmp_errShort), ("stagepost/icmp.errKind", Rows.laid_stagepost_icmp_errKind)] [.sentinel, .sentinel] true :=
  Program.laidByTextLater.sub seatTie1 ["stagepost/icmp.errShort", "stagepost/icmp.errKind"] (by kernel_rfl) (by kernel_rfl)
theorem segmentICMPQuote_row_tie : Rows.segmentICMPQuoteRow.laidByTextAt .later Tryd.pinned [.sentinel, .sentinel] true :=
  OpenClaim.laidByTextAt_later rfl rfl tie noOwnUnsafe
theorem segmentICMPQuoteUpto_row_tie : Rows.segmentICMPQuoteUptoRow.laidByTextAt .later Tryd.pinned [.sentinel, .sentinel] true :=
  OpenClaim.laidByTextAt_later rfl rfl tie noOwnUnsafe
end Go.Proofs.YtloialpcdedekaaDoor
