/-
  NARROWER THAN 'FOR EVERY INPUT', by the rows' own cells (each row's printed sentence says how): ICMPMatchesReference: laid · ICMPErrorsMatchReference: laid · ICMPRoundTrip: laid · ICMPCanonical: laid · ICMPDetectsByteErrors: laid · ICMPQuotesDatagram: laid · ICMPPathsMatchReference: laid · ICMPPathMTUNeverGrows: laid · ICMPPathMTUExpires: laid · ICMPPathMTUFragments: laid.
  DERIVED. THE GIVEN ROWS OF THIS SEAT. 10 by the template 'for every input the law returns true; each argument reads behind the call as it read before'; 0 by the template 'total and deterministic' (their statements: YtmcfllogcmnnoaaDoorTotals.lean).
  GIVEN WITH THE SEED: the statements are not yours to turn. If you find one false, say at which input.
  Laid BY PROGRAM, IN A SANDBOX (cutbox-rows.mjs): the forced cells as the released guide's own fill.sh prints them over the translation 01733e797db993bd… (all of the seat's roots in one cut). By AI agents, Wed Nov 11 2026. No macro, syntax, notation, axiom, sorry.
-/
import Derived.Test.YtmcfllogcmnnoaaDoorChecked
import GoSem.Claim
import GoSem.ClaimJoined
import GoSem.ClaimMapViews
import Derived.JoinedTies
import Derived.KernelRfl
namespace Go.Proofs.YtmcfllogcmnnoaaDoor
/- THE CELL 'sum', in the pinned program and in every row, IS THE sha256 OF THE DUMP (.gsa) THAT YtmcfllogcmnnoaaDoorProg.lean LOADS. Nothing in Lean hashes anything: it is a label: what it is worth is what the hold of that sum in a sandbox is worth. -/
noncomputable def Tryd.pinned : Pinned := { name := "ytmcfllogcmnnoaadoor", sum := "01733e797db993bd76111a63e8cab2be78260957df673bae04b9419ffc7c926e", checked := Tryd.checked }
namespace Rows
def none {H : Type} : Left H := { results := [], args := [] }

/- WHAT THE LISTED PACKAGE-LEVEL VARIABLES READ AS WHEN THE CALL BEGINS. Each datum BY PROGRAM (the guide's laid-datum.mjs) off the statement by which the dump's own 'gosem.cut.vars' lays the variable. In a bare row this is a premise. The card (YtmcfllogcmnnoaaDoorCards.lean) ties it to the program's text. -/
def laid_stagepost_icmp_errShort {H : Type} : DataW H := .iface "*errors.errorString" (.ptr (.agg [.lit (.string [116, 104, 101, 32, 102, 105, 120, 101, 100, 32, 102, 105, 101, 108, 100, 115, 32, 97, 114, 101, 32, 110, 111, 116, 32, 119, 104, 111, 108, 101])]))
def laid_stagepost_icmp_errKind {H : Type} : DataW H := .iface "*errors.errorString" (.ptr (.agg [.lit (.string [116, 104, 101, 32, 107, 105, 110, 100, 32, 105, 115, 32, 117, 110, 107, 110, 111, 119, 110])]))

/-- 'stagepostlaw08.ICMPMatchesReference': WHATEVER THE INPUT: true; the input reads as it did. -/
def iCMPMatchesReferenceSpec : ChangeSpec := { name := "iCMPMatchesReference", fn := fun _ => fun
  | [d1, d2] => { results := [.lit (.bool true)], args := [d1, d2] }
  | _ => none }
def iCMPMatchesReferenceRow : OpenClaim := { program := "ytmcfllogcmnnoaadoor", sum := "01733e797db993bd76111a63e8cab2be78260957df673bae04b9419ffc7c926e", func := "stagepost/stagepostlaw08.ICMPMatchesReference", spec := "iCMPMatchesReference", inPlace := ["internal/abi.NoEscape", "internal/reflectlite.TypeOf"], unfollowed := true, recurses := true, named := ["stagepost/icmp.errShort", "stagepost/icmp.errKind"], apart := false, laid := [("stagepost/icmp.errShort", laid_stagepost_icmp_errShort), ("stagepost/icmp.errKind", laid_stagepost_icmp_errKind)] }
def ICMPMatchesReferenceSaid : Prop := iCMPMatchesReferenceRow.holds Tryd.pinned (OpenSpec.ofChange iCMPMatchesReferenceSpec)

/-- ITS FALSE NEIGHBOUR: 'it returns false'. Refute it at one input. -/
def iCMPMatchesReferenceWrong : ChangeSpec := { name := "iCMPMatchesReference", fn := fun _ => fun
  | [d1, d2] => { results := [.lit (.bool false)], args := [d1, d2] }
  | _ => none }
def ICMPMatchesReferenceWrongFalsely : Prop := iCMPMatchesReferenceRow.holds Tryd.pinned (OpenSpec.ofChange iCMPMatchesReferenceWrong)

/-- 'stagepostlaw08.ICMPErrorsMatchReference': WHATEVER THE INPUT: true; the input reads as it did. -/
def iCMPErrorsMatchReferenceSpec : ChangeSpec := { name := "iCMPErrorsMatchReference", fn := fun _ => fun
  | [d1, d2, d3, d4, d5] => { results := [.lit (.bool true)], args := [d1, d2, d3, d4, d5] }
  | _ => none }
def iCMPErrorsMatchReferenceRow : OpenClaim := { program := "ytmcfllogcmnnoaadoor", sum := "01733e797db993bd76111a63e8cab2be78260957df673bae04b9419ffc7c926e", func := "stagepost/stagepostlaw08.ICMPErrorsMatchReference", spec := "iCMPErrorsMatchReference", inPlace := ["internal/abi.NoEscape", "internal/reflectlite.TypeOf"], unfollowed := true, recurses := true, named := ["stagepost/icmp.errShort", "stagepost/icmp.errKind"], apart := false, laid := [("stagepost/icmp.errShort", laid_stagepost_icmp_errShort), ("stagepost/icmp.errKind", laid_stagepost_icmp_errKind)] }
def ICMPErrorsMatchReferenceSaid : Prop := iCMPErrorsMatchReferenceRow.holds Tryd.pinned (OpenSpec.ofChange iCMPErrorsMatchReferenceSpec)

/-- ITS FALSE NEIGHBOUR: 'it returns false'. Refute it at one input. -/
def iCMPErrorsMatchReferenceWrong : ChangeSpec := { name := "iCMPErrorsMatchReference", fn := fun _ => fun
  | [d1, d2, d3, d4, d5] => { results := [.lit (.bool false)], args := [d1, d2, d3, d4, d5] }
  | _ => none }
def ICMPErrorsMatchReferenceWrongFalsely : Prop := iCMPErrorsMatchReferenceRow.holds Tryd.pinned (OpenSpec.ofChange iCMPErrorsMatchReferenceWrong)

/-- 'stagepostlaw08.ICMPRoundTrip': WHATEVER THE INPUT: true; the input reads as it did. -/
def iCMPRoundTripSpec : ChangeSpec := { name := "iCMPRoundTrip", fn := fun _ => fun
  | [d] => { results := [.lit (.bool true)], args := [d] }
  | _ => none }
def iCMPRoundTripRow : OpenClaim := { program := "ytmcfllogcmnnoaadoor", sum := "01733e797db993bd76111a63e8cab2be78260957df673bae04b9419ffc7c926e", func := "stagepost/stagepostlaw08.ICMPRoundTrip", spec := "iCMPRoundTrip", inPlace := ["internal/abi.NoEscape", "internal/reflectlite.TypeOf"], unfollowed := true, recurses := true, named := ["stagepost/icmp.errShort", "stagepost/icmp.errKind"], apart := false, laid := [("stagepost/icmp.errShort", laid_stagepost_icmp_errShort), ("stagepost/icmp.errKind", laid_stagepost_icmp_errKind)] }
def ICMPRoundTripSaid : Prop := iCMPRoundTripRow.holds Tryd.pinned (OpenSpec.ofChange iCMPRoundTripSpec)

/-- ITS FALSE NEIGHBOUR: 'it returns false'. Refute it at one input. -/
def iCMPRoundTripWrong : ChangeSpec := { name := "iCMPRoundTrip", fn := fun _ => fun
  | [d] => { results := [.lit (.bool false)], args := [d] }
  | _ => none }
def ICMPRoundTripWrongFalsely : Prop := iCMPRoundTripRow.holds Tryd.pinned (OpenSpec.ofChange iCMPRoundTripWrong)

/-- 'stagepostlaw08.ICMPCanonical': WHATEVER THE INPUT: true; the input reads as it did. -/
def iCMPCanonicalSpec : ChangeSpec := { name := "iCMPCanonical", fn := fun _ => fun
  | [d] => { results := [.lit (.bool true)], args := [d] }
  | _ => none }
def iCMPCanonicalRow : OpenClaim := { program := "ytmcfllogcmnnoaadoor", sum := "01733e797db993bd76111a63e8cab2be78260957df673bae04b9419ffc7c926e", func := "stagepost/stagepostlaw08.ICMPCanonical", spec := "iCMPCanonical", inPlace := ["internal/abi.NoEscape", "internal/reflectlite.TypeOf"], unfollowed := true, recurses := true, named := ["stagepost/icmp.errShort", "stagepost/icmp.errKind"], apart := false, laid := [("stagepost/icmp.errShort", laid_stagepost_icmp_errShort), ("stagepost/icmp.errKind", laid_stagepost_icmp_errKind)] }
def ICMPCanonicalSaid : Prop := iCMPCanonicalRow.holds Tryd.pinned (OpenSpec.ofChange iCMPCanonicalSpec)

/-- ITS FALSE NEIGHBOUR: 'it returns false'. Refute it at one input. -/
def iCMPCanonicalWrong : ChangeSpec := { name := "iCMPCanonical", fn := fun _ => fun
  | [d] => { results := [.lit (.bool false)], args := [d] }
  | _ => none }
def ICMPCanonicalWrongFalsely : Prop := iCMPCanonicalRow.holds Tryd.pinned (OpenSpec.ofChange iCMPCanonicalWrong)

/-- 'stagepostlaw08.ICMPDetectsByteErrors': WHATEVER THE INPUT: true; the input reads as it did. -/
def iCMPDetectsByteErrorsSpec : ChangeSpec := { name := "iCMPDetectsByteErrors", fn := fun _ => fun
  | [d1, d2, d3] => { results := [.lit (.bool true)], args := [d1, d2, d3] }
  | _ => none }
def iCMPDetectsByteErrorsRow : OpenClaim := { program := "ytmcfllogcmnnoaadoor", sum := "01733e797db993bd76111a63e8cab2be78260957df673bae04b9419ffc7c926e", func := "stagepost/stagepostlaw08.ICMPDetectsByteErrors", spec := "iCMPDetectsByteErrors", inPlace := ["internal/abi.NoEscape", "internal/reflectlite.TypeOf"], unfollowed := true, recurses := true, named := ["stagepost/icmp.errShort", "stagepost/icmp.errKind"], apart := false, laid := [("stagepost/icmp.errShort", laid_stagepost_icmp_errShort), ("stagepost/icmp.errKind", laid_stagepost_icmp_errKind)] }
def ICMPDetectsByteErrorsSaid : Prop := iCMPDetectsByteErrorsRow.holds Tryd.pinned (OpenSpec.ofChange iCMPDetectsByteErrorsSpec)

/-- ITS FALSE NEIGHBOUR: 'it returns false'. Refute it at one input. -/
def iCMPDetectsByteErrorsWrong : ChangeSpec := { name := "iCMPDetectsByteErrors", fn := fun _ => fun
  | [d1, d2, d3] => { results := [.lit (.bool false)], args := [d1, d2, d3] }
  | _ => none }
def ICMPDetectsByteErrorsWrongFalsely : Prop := iCMPDetectsByteErrorsRow.holds Tryd.pinned (OpenSpec.ofChange iCMPDetectsByteErrorsWrong)

/-- 'stagepostlaw08.ICMPQuotesDatagram': WHATEVER THE INPUT: true; the input reads as it did. -/
def iCMPQuotesDatagramSpec : ChangeSpec := { name := "iCMPQuotesDatagram", fn := fun _ => fun
  | [d1, d2] => { results := [.lit (.bool true)], args := [d1, d2] }
  | _ => none }
def iCMPQuotesDatagramRow : OpenClaim := { program := "ytmcfllogcmnnoaadoor", sum := "01733e797db993bd76111a63e8cab2be78260957df673bae04b9419ffc7c926e", func := "stagepost/stagepostlaw08.ICMPQuotesDatagram", spec := "iCMPQuotesDatagram", inPlace := ["internal/abi.NoEscape", "internal/reflectlite.TypeOf"], unfollowed := true, recurses := true, named := ["stagepost/icmp.errShort", "stagepost/icmp.errKind"], apart := false, laid := [("stagepost/icmp.errShort", laid_stagepost_icmp_errShort), ("stagepost/icmp.errKind", laid_stagepost_icmp_errKind)] }
def ICMPQuotesDatagramSaid : Prop := iCMPQuotesDatagramRow.holds Tryd.pinned (OpenSpec.ofChange iCMPQuotesDatagramSpec)

/-- ITS FALSE NEIGHBOUR: 'it returns false'. Refute it at one input. -/
def iCMPQuotesDatagramWrong : ChangeSpec := { name := "iCMPQuotesDatagram", fn := fun _ => fun
  | [d1, d2] => { results := [.lit (.bool false)], args := [d1, d2] }
  | _ => none }
def ICMPQuotesDatagramWrongFalsely : Prop := iCMPQuotesDatagramRow.holds Tryd.pinned (OpenSpec.ofChange iCMPQuotesDatagramWrong)

/-- 'stagepostlaw08.ICMPPathsMatchReference': WHATEVER THE INPUT: true; the input reads as it did. -/
def iCMPPathsMatchReferenceSpec : ChangeSpec := { name := "iCMPPathsMatchReference", fn := fun _ => fun
  | [d1, d2, d3, d4] => { results := [.lit (.bool true)], args := [d1, d2, d3, d4] }
  | _ => none }
def iCMPPathsMatchReferenceRow : OpenClaim := { program := "ytmcfllogcmnnoaadoor", sum := "01733e797db993bd76111a63e8cab2be78260957df673bae04b9419ffc7c926e", func := "stagepost/stagepostlaw08.ICMPPathsMatchReference", spec := "iCMPPathsMatchReference", inPlace := ["internal/abi.NoEscape", "internal/reflectlite.TypeOf"], unfollowed := true, recurses := true, named := ["stagepost/icmp.errShort", "stagepost/icmp.errKind"], apart := false, laid := [("stagepost/icmp.errShort", laid_stagepost_icmp_errShort), ("stagepost/icmp.errKind", laid_stagepost_icmp_errKind)] }
def ICMPPathsMatchReferenceSaid : Prop := iCMPPathsMatchReferenceRow.holds Tryd.pinned (OpenSpec.ofChange iCMPPathsMatchReferenceSpec)

/-- ITS FALSE NEIGHBOUR: 'it returns false'. Refute it at one input. -/
def iCMPPathsMatchReferenceWrong : ChangeSpec := { name := "iCMPPathsMatchReference", fn := fun _ => fun
  | [d1, d2, d3, d4] => { results := [.lit (.bool false)], args := [d1, d2, d3, d4] }
  | _ => none }
def ICMPPathsMatchReferenceWrongFalsely : Prop := iCMPPathsMatchReferenceRow.holds Tryd.pinned (OpenSpec.ofChange iCMPPathsMatchReferenceWrong)

/-- 'stagepostlaw08.ICMPPathMTUNeverGrows': WHATEVER THE INPUT: true; the input reads as it did. -/
def iCMPPathMTUNeverGrowsSpec : ChangeSpec := { name := "iCMPPathMTUNeverGrows", fn := fun _ => fun
  | [d] => { results := [.lit (.bool true)], args := [d] }
  | _ => none }
def iCMPPathMTUNeverGrowsRow : OpenClaim := { program := "ytmcfllogcmnnoaadoor", sum := "01733e797db993bd76111a63e8cab2be78260957df673bae04b9419ffc7c926e", func := "stagepost/stagepostlaw08.ICMPPathMTUNeverGrows", spec := "iCMPPathMTUNeverGrows", inPlace := ["internal/abi.NoEscape", "internal/reflectlite.TypeOf"], unfollowed := true, recurses := true, named := ["stagepost/icmp.errShort", "stagepost/icmp.errKind"], apart := false, laid := [("stagepost/icmp.errShort", laid_stagepost_icmp_errShort), ("stagepost/icmp.errKind", laid_stagepost_icmp_errKind)] }
def ICMPPathMTUNeverGrowsSaid : Prop := iCMPPathMTUNeverGrowsRow.holds Tryd.pinned (OpenSpec.ofChange iCMPPathMTUNeverGrowsSpec)

/-- ITS FALSE NEIGHBOUR: 'it returns false'. Refute it at one input. -/
def iCMPPathMTUNeverGrowsWrong : ChangeSpec := { name := "iCMPPathMTUNeverGrows", fn := fun _ => fun
  | [d] => { results := [.lit (.bool false)], args := [d] }
  | _ => none }
def ICMPPathMTUNeverGrowsWrongFalsely : Prop := iCMPPathMTUNeverGrowsRow.holds Tryd.pinned (OpenSpec.ofChange iCMPPathMTUNeverGrowsWrong)

/-- 'stagepostlaw08.ICMPPathMTUExpires': WHATEVER THE INPUT: true; the input reads as it did. -/
def iCMPPathMTUExpiresSpec : ChangeSpec := { name := "iCMPPathMTUExpires", fn := fun _ => fun
  | [d1, d2, d3, d4, d5, d6] => { results := [.lit (.bool true)], args := [d1, d2, d3, d4, d5, d6] }
  | _ => none }
def iCMPPathMTUExpiresRow : OpenClaim := { program := "ytmcfllogcmnnoaadoor", sum := "01733e797db993bd76111a63e8cab2be78260957df673bae04b9419ffc7c926e", func := "stagepost/stagepostlaw08.ICMPPathMTUExpires", spec := "iCMPPathMTUExpires", inPlace := ["internal/abi.NoEscape", "internal/reflectlite.TypeOf"], unfollowed := true, recurses := true, named := ["stagepost/icmp.errShort", "stagepost/icmp.errKind"], apart := false, laid := [("stagepost/icmp.errShort", laid_stagepost_icmp_errShort), ("stagepost/icmp.errKind", laid_stagepost_icmp_errKind)] }
def ICMPPathMTUExpiresSaid : Prop := iCMPPathMTUExpiresRow.holds Tryd.pinned (OpenSpec.ofChange iCMPPathMTUExpiresSpec)

/-- ITS FALSE NEIGHBOUR: 'it returns false'. Refute it at one input. -/
def iCMPPathMTUExpiresWrong : ChangeSpec := { name := "iCMPPathMTUExpires", fn := fun _ => fun
  | [d1, d2, d3, d4, d5, d6] => { results := [.lit (.bool false)], args := [d1, d2, d3, d4, d5, d6] }
  | _ => none }
def ICMPPathMTUExpiresWrongFalsely : Prop := iCMPPathMTUExpiresRow.holds Tryd.pinned (OpenSpec.ofChange iCMPPathMTUExpiresWrong)

/-- 'stagepostlaw08.ICMPPathMTUFragments': WHATEVER THE INPUT: true; the input reads as it did. -/
def iCMPPathMTUFragmentsSpec : ChangeSpec := { name := "iCMPPathMTUFragments", fn := fun _ => fun
  | [d1, d2, d3] => { results := [.lit (.bool true)], args := [d1, d2, d3] }
  | _ => none }
def iCMPPathMTUFragmentsRow : OpenClaim := { program := "ytmcfllogcmnnoaadoor", sum := "01733e797db993bd76111a63e8cab2be78260957df673bae04b9419ffc7c926e", func := "stagepost/stagepostlaw08.ICMPPathMTUFragments", spec := "iCMPPathMTUFragments", inPlace := ["internal/abi.NoEscape", "internal/reflectlite.TypeOf"], unfollowed := true, recurses := true, named := ["stagepost/icmp.errShort", "stagepost/icmp.errKind"], apart := false, laid := [("stagepost/icmp.errShort", laid_stagepost_icmp_errShort), ("stagepost/icmp.errKind", laid_stagepost_icmp_errKind)] }
def ICMPPathMTUFragmentsSaid : Prop := iCMPPathMTUFragmentsRow.holds Tryd.pinned (OpenSpec.ofChange iCMPPathMTUFragmentsSpec)

/-- ITS FALSE NEIGHBOUR: 'it returns false'. Refute it at one input. -/
def iCMPPathMTUFragmentsWrong : ChangeSpec := { name := "iCMPPathMTUFragments", fn := fun _ => fun
  | [d1, d2, d3] => { results := [.lit (.bool false)], args := [d1, d2, d3] }
  | _ => none }
def ICMPPathMTUFragmentsWrongFalsely : Prop := iCMPPathMTUFragmentsRow.holds Tryd.pinned (OpenSpec.ofChange iCMPPathMTUFragmentsWrong)

/- THE SECOND FORM. 'bulk': how many values and letters a reading holds, each counted each time it is reached (what is shared counts as often as it is met; a slice's spare places count too). A statement '..UptoSaid' is the law's where the arguments, and the package variables that the reading takes, are together of bulk at most 1048576: NARROWER than '..Said'. Prove '..Said' where nothing that the law and all that it calls make is longer than what came in: it says more and counts as full. Else prove '..UptoSaid'. A law counts once. -/
mutual
def uptoBulk {H : Type} : DataW H → Nat
  | .lit (.string bytes) => bytes.length + 1
  | .lit _ => 1
  | .nil => 1
  | .ptr d => uptoBulk d + 1
  | .slice elems spare => uptoBulkAll elems + uptoBulkAll spare + 1
  | .agg parts => uptoBulkAll parts + 1
  | .iface _ d => uptoBulk d + 1
  | .map entries => uptoBulkEntries entries + 1
  | .held _ => 1
def uptoBulkAll {H : Type} : List (DataW H) → Nat
  | [] => 0
  | d :: r => uptoBulk d + uptoBulkAll r
def uptoBulkEntries {H : Type} : List (Lit × DataW H) → Nat
  | [] => 0
  | x :: r => uptoBulkEntry x + uptoBulkEntries r
def uptoBulkEntry {H : Type} : Lit × DataW H → Nat
  | (.string bytes, d) => bytes.length + uptoBulk d + 1
  | (_, d) => uptoBulk d + 1
 end
def uptoSmall : (H : Type) → List (DataW H) → Bool := fun _ ds => decide (uptoBulkAll ds ≤ 1048576)
def OpenSpec.upto (s : _root_.Go.ChangeSpec) : _root_.Go.OpenSpec := { _root_.Go.OpenSpec.ofChange s with cond := some uptoSmall }

/-- 'stagepostlaw08.ICMPMatchesReference', WHERE WHAT IT READS IS OF BULK AT MOST 1048576: true; the input reads as it did. -/
def iCMPMatchesReferenceUptoRow : OpenClaim := { program := "ytmcfllogcmnnoaadoor", sum := "01733e797db993bd76111a63e8cab2be78260957df673bae04b9419ffc7c926e", func := "stagepost/stagepostlaw08.ICMPMatchesReference", spec := "iCMPMatchesReference", inPlace := ["internal/abi.NoEscape", "internal/reflectlite.TypeOf"], unfollowed := true, recurses := true, named := ["stagepost/icmp.errShort", "stagepost/icmp.errKind"], apart := false, laid := [("stagepost/icmp.errShort", laid_stagepost_icmp_errShort), ("stagepost/icmp.errKind", laid_stagepost_icmp_errKind)], narrowed := true }
def ICMPMatchesReferenceUptoSaid : Prop := iCMPMatchesReferenceUptoRow.holds Tryd.pinned (OpenSpec.upto iCMPMatchesReferenceSpec)

/-- 'stagepostlaw08.ICMPErrorsMatchReference', WHERE WHAT IT READS IS OF BULK AT MOST 1048576: true; the input reads as it did. -/
def iCMPErrorsMatchReferenceUptoRow : OpenClaim := { program := "ytmcfllogcmnnoaadoor", sum := "01733e797db993bd76111a63e8cab2be78260957df673bae04b9419ffc7c926e", func := "stagepost/stagepostlaw08.ICMPErrorsMatchReference", spec := "iCMPErrorsMatchReference", inPlace := ["internal/abi.NoEscape", "internal/reflectlite.TypeOf"], unfollowed := true, recurses := true, named := ["stagepost/icmp.errShort", "stagepost/icmp.errKind"], apart := false, laid := [("stagepost/icmp.errShort", laid_stagepost_icmp_errShort), ("stagepost/icmp.errKind", laid_stagepost_icmp_errKind)], narrowed := true }
def ICMPErrorsMatchReferenceUptoSaid : Prop := iCMPErrorsMatchReferenceUptoRow.holds Tryd.pinned (OpenSpec.upto iCMPErrorsMatchReferenceSpec)

/-- 'stagepostlaw08.ICMPRoundTrip', WHERE WHAT IT READS IS OF BULK AT MOST 1048576: true; the input reads as it did. -/
def iCMPRoundTripUptoRow : OpenClaim := { program := "ytmcfllogcmnnoaadoor", sum := "01733e797db993bd76111a63e8cab2be78260957df673bae04b9419ffc7c926e", func := "stagepost/stagepostlaw08.ICMPRoundTrip", spec := "iCMPRoundTrip", inPlace := ["internal/abi.NoEscape", "internal/reflectlite.TypeOf"], unfollowed := true, recurses := true, named := ["stagepost/icmp.errShort", "stagepost/icmp.errKind"], apart := false, laid := [("stagepost/icmp.errShort", laid_stagepost_icmp_errShort), ("stagepost/icmp.errKind", laid_stagepost_icmp_errKind)], narrowed := true }
def ICMPRoundTripUptoSaid : Prop := iCMPRoundTripUptoRow.holds Tryd.pinned (OpenSpec.upto iCMPRoundTripSpec)

/-- 'stagepostlaw08.ICMPCanonical', WHERE WHAT IT READS IS OF BULK AT MOST 1048576: true; the input reads as it did. -/
def iCMPCanonicalUptoRow : OpenClaim := { program := "ytmcfllogcmnnoaadoor", sum := "01733e797db993bd76111a63e8cab2be78260957df673bae04b9419ffc7c926e", func := "stagepost/stagepostlaw08.ICMPCanonical", spec := "iCMPCanonical", inPlace := ["internal/abi.NoEscape", "internal/reflectlite.TypeOf"], unfollowed := true, recurses := true, named := ["stagepost/icmp.errShort", "stagepost/icmp.errKind"], apart := false, laid := [("stagepost/icmp.errShort", laid_stagepost_icmp_errShort), ("stagepost/icmp.errKind", laid_stagepost_icmp_errKind)], narrowed := true }
def ICMPCanonicalUptoSaid : Prop := iCMPCanonicalUptoRow.holds Tryd.pinned (OpenSpec.upto iCMPCanonicalSpec)

/-- 'stagepostlaw08.ICMPDetectsByteErrors', WHERE WHAT IT READS IS OF BULK AT MOST 1048576: true; the input reads as it did. -/
def iCMPDetectsByteErrorsUptoRow : OpenClaim := { program := "ytmcfllogcmnnoaadoor", sum := "01733e797db993bd76111a63e8cab2be78260957df673bae04b9419ffc7c926e", func := "stagepost/stagepostlaw08.ICMPDetectsByteErrors", spec := "iCMPDetectsByteErrors", inPlace := ["internal/abi.NoEscape", "internal/reflectlite.TypeOf"], unfollowed := true, recurses := true, named := ["stagepost/icmp.errShort", "stagepost/icmp.errKind"], apart := false, laid := [("stagepost/icmp.errShort", laid_stagepost_icmp_errShort), ("stagepost/icmp.errKind", laid_stagepost_icmp_errKind)], narrowed := true }
def ICMPDetectsByteErrorsUptoSaid : Prop := iCMPDetectsByteErrorsUptoRow.holds Tryd.pinned (OpenSpec.upto iCMPDetectsByteErrorsSpec)

/-- 'stagepostlaw08.ICMPQuotesDatagram', WHERE WHAT IT READS IS OF BULK AT MOST 1048576: true; the input reads as it did. -/
def iCMPQuotesDatagramUptoRow : OpenClaim := { program := "ytmcfllogcmnnoaadoor", sum := "01733e797db993bd76111a63e8cab2be78260957df673bae04b9419ffc7c926e", func := "stagepost/stagepostlaw08.ICMPQuotesDatagram", spec := "iCMPQuotesDatagram", inPlace := ["internal/abi.NoEscape", "internal/reflectlite.TypeOf"], unfollowed := true, recurses := true, named := ["stagepost/icmp.errShort", "stagepost/icmp.errKind"], apart := false, laid := [("stagepost/icmp.errShort", laid_stagepost_icmp_errShort), ("stagepost/icmp.errKind", laid_stagepost_icmp_errKind)], narrowed := true }
def ICMPQuotesDatagramUptoSaid : Prop := iCMPQuotesDatagramUptoRow.holds Tryd.pinned (OpenSpec.upto iCMPQuotesDatagramSpec)

/-- 'stagepostlaw08.ICMPPathsMatchReference', WHERE WHAT IT READS IS OF BULK AT MOST 1048576: true; the input reads as it did. -/
def iCMPPathsMatchReferenceUptoRow : OpenClaim := { program := "ytmcfllogcmnnoaadoor", sum := "01733e797db993bd76111a63e8cab2be78260957df673bae04b9419ffc7c926e", func := "stagepost/stagepostlaw08.ICMPPathsMatchReference", spec := "iCMPPathsMatchReference", inPlace := ["internal/abi.NoEscape", "internal/reflectlite.TypeOf"], unfollowed := true, recurses := true, named := ["stagepost/icmp.errShort", "stagepost/icmp.errKind"], apart := false, laid := [("stagepost/icmp.errShort", laid_stagepost_icmp_errShort), ("stagepost/icmp.errKind", laid_stagepost_icmp_errKind)], narrowed := true }
def ICMPPathsMatchReferenceUptoSaid : Prop := iCMPPathsMatchReferenceUptoRow.holds Tryd.pinned (OpenSpec.upto iCMPPathsMatchReferenceSpec)

/-- 'stagepostlaw08.ICMPPathMTUNeverGrows', WHERE WHAT IT READS IS OF BULK AT MOST 1048576: true; the input reads as it did. -/
def iCMPPathMTUNeverGrowsUptoRow : OpenClaim := { program := "ytmcfllogcmnnoaadoor", sum := "01733e797db993bd76111a63e8cab2be78260957df673bae04b9419ffc7c926e", func := "stagepost/stagepostlaw08.ICMPPathMTUNeverGrows", spec := "iCMPPathMTUNeverGrows", inPlace := ["internal/abi.NoEscape", "internal/reflectlite.TypeOf"], unfollowed := true, recurses := true, named := ["stagepost/icmp.errShort", "stagepost/icmp.errKind"], apart := false, laid := [("stagepost/icmp.errShort", laid_stagepost_icmp_errShort), ("stagepost/icmp.errKind", laid_stagepost_icmp_errKind)], narrowed := true }
def ICMPPathMTUNeverGrowsUptoSaid : Prop := iCMPPathMTUNeverGrowsUptoRow.holds Tryd.pinned (OpenSpec.upto iCMPPathMTUNeverGrowsSpec)

/-- 'stagepostlaw08.ICMPPathMTUExpires', WHERE WHAT IT READS IS OF BULK AT MOST 1048576: true; the input reads as it did. -/
def iCMPPathMTUExpiresUptoRow : OpenClaim := { program := "ytmcfllogcmnnoaadoor", sum := "01733e797db993bd76111a63e8cab2be78260957df673bae04b9419ffc7c926e", func := "stagepost/stagepostlaw08.ICMPPathMTUExpires", spec := "iCMPPathMTUExpires", inPlace := ["internal/abi.NoEscape", "internal/reflectlite.TypeOf"], unfollowed := true, recurses := true, named := ["stagepost/icmp.errShort", "stagepost/icmp.errKind"], apart := false, laid := [("stagepost/icmp.errShort", laid_stagepost_icmp_errShort), ("stagepost/icmp.errKind", laid_stagepost_icmp_errKind)], narrowed := true }
def ICMPPathMTUExpiresUptoSaid : Prop := iCMPPathMTUExpiresUptoRow.holds Tryd.pinned (OpenSpec.upto iCMPPathMTUExpiresSpec)

/-- 'stagepostlaw08.ICMPPathMTUFragments', WHERE WHAT IT READS IS OF BULK AT MOST 1048576: true; the input reads as it did. -/
def iCMPPathMTUFragmentsUptoRow : OpenClaim := { program := "ytmcfllogcmnnoaadoor", sum := "01733e797db993bd76111a63e8cab2be78260957df673bae04b9419ffc7c926e", func := "stagepost/stagepostlaw08.ICMPPathMTUFragments", spec := "iCMPPathMTUFragments", inPlace := ["internal/abi.NoEscape", "internal/reflectlite.TypeOf"], unfollowed := true, recurses := true, named := ["stagepost/icmp.errShort", "stagepost/icmp.errKind"], apart := false, laid := [("stagepost/icmp.errShort", laid_stagepost_icmp_errShort), ("stagepost/icmp.errKind", laid_stagepost_icmp_errKind)], narrowed := true }
def ICMPPathMTUFragmentsUptoSaid : Prop := iCMPPathMTUFragmentsUptoRow.holds Tryd.pinned (OpenSpec.upto iCMPPathMTUFragmentsSpec)

end Rows
end Go.Proofs.YtmcfllogcmnnoaaDoor
