/-
  No cell of these rows narrows 'for every input' (looked for: loops, veiled, ifaces, maps, wideKeys, modest, calm, conditions, laid).
  DERIVED. THE GIVEN ROWS OF THIS SEAT. 9 by the template 'for every input the law returns true; each argument reads behind the call as it read before'; 0 by the template 'total and deterministic' (their statements: YtjdoemmfemogmaaTotals.lean).
  GIVEN WITH THE SEED: the statements are not yours to turn. If you find one false, say at which input.
  Laid BY PROGRAM, IN A SANDBOX (cutbox-rows.mjs): the forced cells as the released guide's own fill.sh prints them over the translation e408f9f8f5b94627… (all of the seat's roots in one cut). By AI agents, Wed Nov 11 2026. No macro, syntax, notation, axiom, sorry.
-/
import Derived.Test.YtjdoemmfemogmaaChecked
import GoSem.Claim
import GoSem.ClaimJoined
import GoSem.ClaimMapViews
import Derived.JoinedTies
import Derived.KernelRfl
namespace Go.Proofs.Ytjdoemmfemogmaa
/- THE CELL 'sum', in the pinned program and in every row, IS THE sha256 OF THE DUMP (.gsa) THAT YtjdoemmfemogmaaProg.lean LOADS. Nothing in Lean hashes anything: it is a label: what it is worth is what the hold of that sum in a sandbox is worth. -/
noncomputable def Try.pinned : Pinned := { name := "ytjdoemmfemogmaa", sum := "e408f9f8f5b94627162f1e6089a344dbea2141abcedf82662a1f42501316d6d2", checked := Try.checked }
namespace Rows
def none {H : Type} : Left H := { results := [], args := [] }

/-- 'stagepostlaw05.ARPEncoding': WHATEVER THE INPUT: true; the input reads as it did. -/
def aRPEncodingSpec : ChangeSpec := { name := "aRPEncoding", fn := fun _ => fun
  | [d1, d2, d3, d4, d5] => { results := [.lit (.bool true)], args := [d1, d2, d3, d4, d5] }
  | _ => none }
def aRPEncodingRow : OpenClaim := { program := "ytjdoemmfemogmaa", sum := "e408f9f8f5b94627162f1e6089a344dbea2141abcedf82662a1f42501316d6d2", func := "stagepost/stagepostlaw05.ARPEncoding", spec := "aRPEncoding", inPlace := ["internal/abi.NoEscape"], unfollowed := true, recurses := true, apart := false }
def ARPEncodingSaid : Prop := aRPEncodingRow.holds Try.pinned (OpenSpec.ofChange aRPEncodingSpec)

/-- ITS FALSE NEIGHBOUR: 'it returns false'. Refute it at one input. -/
def aRPEncodingWrong : ChangeSpec := { name := "aRPEncoding", fn := fun _ => fun
  | [d1, d2, d3, d4, d5] => { results := [.lit (.bool false)], args := [d1, d2, d3, d4, d5] }
  | _ => none }
def ARPEncodingWrongFalsely : Prop := aRPEncodingRow.holds Try.pinned (OpenSpec.ofChange aRPEncodingWrong)

/-- 'stagepostlaw05.ARPDefendsAddress': WHATEVER THE INPUT: true; the input reads as it did. -/
def aRPDefendsAddressSpec : ChangeSpec := { name := "aRPDefendsAddress", fn := fun _ => fun
  | [d1, d2] => { results := [.lit (.bool true)], args := [d1, d2] }
  | _ => none }
def aRPDefendsAddressRow : OpenClaim := { program := "ytjdoemmfemogmaa", sum := "e408f9f8f5b94627162f1e6089a344dbea2141abcedf82662a1f42501316d6d2", func := "stagepost/stagepostlaw05.ARPDefendsAddress", spec := "aRPDefendsAddress", inPlace := ["internal/abi.NoEscape"], unfollowed := true, recurses := true, apart := false }
def ARPDefendsAddressSaid : Prop := aRPDefendsAddressRow.holds Try.pinned (OpenSpec.ofChange aRPDefendsAddressSpec)

/-- ITS FALSE NEIGHBOUR: 'it returns false'. Refute it at one input. -/
def aRPDefendsAddressWrong : ChangeSpec := { name := "aRPDefendsAddress", fn := fun _ => fun
  | [d1, d2] => { results := [.lit (.bool false)], args := [d1, d2] }
  | _ => none }
def ARPDefendsAddressWrongFalsely : Prop := aRPDefendsAddressRow.holds Try.pinned (OpenSpec.ofChange aRPDefendsAddressWrong)

/-- 'stagepostlaw05.ARPIgnoresUnsolicited': WHATEVER THE INPUT: true; the input reads as it did. -/
def aRPIgnoresUnsolicitedSpec : ChangeSpec := { name := "aRPIgnoresUnsolicited", fn := fun _ => fun
  | [d1, d2, d3] => { results := [.lit (.bool true)], args := [d1, d2, d3] }
  | _ => none }
def aRPIgnoresUnsolicitedRow : OpenClaim := { program := "ytjdoemmfemogmaa", sum := "e408f9f8f5b94627162f1e6089a344dbea2141abcedf82662a1f42501316d6d2", func := "stagepost/stagepostlaw05.ARPIgnoresUnsolicited", spec := "aRPIgnoresUnsolicited", inPlace := ["internal/abi.NoEscape"], unfollowed := true, recurses := true, apart := false }
def ARPIgnoresUnsolicitedSaid : Prop := aRPIgnoresUnsolicitedRow.holds Try.pinned (OpenSpec.ofChange aRPIgnoresUnsolicitedSpec)

/-- ITS FALSE NEIGHBOUR: 'it returns false'. Refute it at one input. -/
def aRPIgnoresUnsolicitedWrong : ChangeSpec := { name := "aRPIgnoresUnsolicited", fn := fun _ => fun
  | [d1, d2, d3] => { results := [.lit (.bool false)], args := [d1, d2, d3] }
  | _ => none }
def ARPIgnoresUnsolicitedWrongFalsely : Prop := aRPIgnoresUnsolicitedRow.holds Try.pinned (OpenSpec.ofChange aRPIgnoresUnsolicitedWrong)

/-- 'stagepostlaw05.ARPRequestReply': WHATEVER THE INPUT: true; the input reads as it did. -/
def aRPRequestReplySpec : ChangeSpec := { name := "aRPRequestReply", fn := fun _ => fun
  | [d1, d2, d3, d4, d5, d6] => { results := [.lit (.bool true)], args := [d1, d2, d3, d4, d5, d6] }
  | _ => none }
def aRPRequestReplyRow : OpenClaim := { program := "ytjdoemmfemogmaa", sum := "e408f9f8f5b94627162f1e6089a344dbea2141abcedf82662a1f42501316d6d2", func := "stagepost/stagepostlaw05.ARPRequestReply", spec := "aRPRequestReply", inPlace := ["internal/abi.NoEscape"], unfollowed := true, recurses := true, apart := false }
def ARPRequestReplySaid : Prop := aRPRequestReplyRow.holds Try.pinned (OpenSpec.ofChange aRPRequestReplySpec)

/-- ITS FALSE NEIGHBOUR: 'it returns false'. Refute it at one input. -/
def aRPRequestReplyWrong : ChangeSpec := { name := "aRPRequestReply", fn := fun _ => fun
  | [d1, d2, d3, d4, d5, d6] => { results := [.lit (.bool false)], args := [d1, d2, d3, d4, d5, d6] }
  | _ => none }
def ARPRequestReplyWrongFalsely : Prop := aRPRequestReplyRow.holds Try.pinned (OpenSpec.ofChange aRPRequestReplyWrong)

/-- 'stagepostlaw05.ARPMatchesReference': WHATEVER THE INPUT: true; the input reads as it did. -/
def aRPMatchesReferenceSpec : ChangeSpec := { name := "aRPMatchesReference", fn := fun _ => fun
  | [d1, d2, d3] => { results := [.lit (.bool true)], args := [d1, d2, d3] }
  | _ => none }
def aRPMatchesReferenceRow : OpenClaim := { program := "ytjdoemmfemogmaa", sum := "e408f9f8f5b94627162f1e6089a344dbea2141abcedf82662a1f42501316d6d2", func := "stagepost/stagepostlaw05.ARPMatchesReference", spec := "aRPMatchesReference", inPlace := ["internal/abi.NoEscape"], unfollowed := true, recurses := true, apart := false }
def ARPMatchesReferenceSaid : Prop := aRPMatchesReferenceRow.holds Try.pinned (OpenSpec.ofChange aRPMatchesReferenceSpec)

/-- ITS FALSE NEIGHBOUR: 'it returns false'. Refute it at one input. -/
def aRPMatchesReferenceWrong : ChangeSpec := { name := "aRPMatchesReference", fn := fun _ => fun
  | [d1, d2, d3] => { results := [.lit (.bool false)], args := [d1, d2, d3] }
  | _ => none }
def ARPMatchesReferenceWrongFalsely : Prop := aRPMatchesReferenceRow.holds Try.pinned (OpenSpec.ofChange aRPMatchesReferenceWrong)

/-- 'stagepostlaw05.ARPBounds': WHATEVER THE INPUT: true; the input reads as it did. -/
def aRPBoundsSpec : ChangeSpec := { name := "aRPBounds", fn := fun _ => fun
  | [d] => { results := [.lit (.bool true)], args := [d] }
  | _ => none }
def aRPBoundsRow : OpenClaim := { program := "ytjdoemmfemogmaa", sum := "e408f9f8f5b94627162f1e6089a344dbea2141abcedf82662a1f42501316d6d2", func := "stagepost/stagepostlaw05.ARPBounds", spec := "aRPBounds", inPlace := ["internal/abi.NoEscape"], unfollowed := true, recurses := true, apart := false }
def ARPBoundsSaid : Prop := aRPBoundsRow.holds Try.pinned (OpenSpec.ofChange aRPBoundsSpec)

/-- ITS FALSE NEIGHBOUR: 'it returns false'. Refute it at one input. -/
def aRPBoundsWrong : ChangeSpec := { name := "aRPBounds", fn := fun _ => fun
  | [d] => { results := [.lit (.bool false)], args := [d] }
  | _ => none }
def ARPBoundsWrongFalsely : Prop := aRPBoundsRow.holds Try.pinned (OpenSpec.ofChange aRPBoundsWrong)

/-- 'stagepostlaw05.ARPKeepsActiveEntries': WHATEVER THE INPUT: true; the input reads as it did. -/
def aRPKeepsActiveEntriesSpec : ChangeSpec := { name := "aRPKeepsActiveEntries", fn := fun _ => fun
  | [d1, d2] => { results := [.lit (.bool true)], args := [d1, d2] }
  | _ => none }
def aRPKeepsActiveEntriesRow : OpenClaim := { program := "ytjdoemmfemogmaa", sum := "e408f9f8f5b94627162f1e6089a344dbea2141abcedf82662a1f42501316d6d2", func := "stagepost/stagepostlaw05.ARPKeepsActiveEntries", spec := "aRPKeepsActiveEntries", inPlace := ["internal/abi.NoEscape"], unfollowed := true, recurses := true, apart := false }
def ARPKeepsActiveEntriesSaid : Prop := aRPKeepsActiveEntriesRow.holds Try.pinned (OpenSpec.ofChange aRPKeepsActiveEntriesSpec)

/-- ITS FALSE NEIGHBOUR: 'it returns false'. Refute it at one input. -/
def aRPKeepsActiveEntriesWrong : ChangeSpec := { name := "aRPKeepsActiveEntries", fn := fun _ => fun
  | [d1, d2] => { results := [.lit (.bool false)], args := [d1, d2] }
  | _ => none }
def ARPKeepsActiveEntriesWrongFalsely : Prop := aRPKeepsActiveEntriesRow.holds Try.pinned (OpenSpec.ofChange aRPKeepsActiveEntriesWrong)

/-- 'stagepostlaw05.ARPDeliversOnce': WHATEVER THE INPUT: true; the input reads as it did. -/
def aRPDeliversOnceSpec : ChangeSpec := { name := "aRPDeliversOnce", fn := fun _ => fun
  | [d] => { results := [.lit (.bool true)], args := [d] }
  | _ => none }
def aRPDeliversOnceRow : OpenClaim := { program := "ytjdoemmfemogmaa", sum := "e408f9f8f5b94627162f1e6089a344dbea2141abcedf82662a1f42501316d6d2", func := "stagepost/stagepostlaw05.ARPDeliversOnce", spec := "aRPDeliversOnce", inPlace := ["internal/abi.NoEscape"], unfollowed := true, recurses := true, apart := false }
def ARPDeliversOnceSaid : Prop := aRPDeliversOnceRow.holds Try.pinned (OpenSpec.ofChange aRPDeliversOnceSpec)

/-- ITS FALSE NEIGHBOUR: 'it returns false'. Refute it at one input. -/
def aRPDeliversOnceWrong : ChangeSpec := { name := "aRPDeliversOnce", fn := fun _ => fun
  | [d] => { results := [.lit (.bool false)], args := [d] }
  | _ => none }
def ARPDeliversOnceWrongFalsely : Prop := aRPDeliversOnceRow.holds Try.pinned (OpenSpec.ofChange aRPDeliversOnceWrong)

/-- 'stagepostlaw05.ARPNilAndInvalid': WHATEVER THE INPUT: true; the input reads as it did. -/
def aRPNilAndInvalidSpec : ChangeSpec := { name := "aRPNilAndInvalid", fn := fun _ => fun
  | [d1, d2] => { results := [.lit (.bool true)], args := [d1, d2] }
  | _ => none }
def aRPNilAndInvalidRow : OpenClaim := { program := "ytjdoemmfemogmaa", sum := "e408f9f8f5b94627162f1e6089a344dbea2141abcedf82662a1f42501316d6d2", func := "stagepost/stagepostlaw05.ARPNilAndInvalid", spec := "aRPNilAndInvalid", inPlace := ["internal/abi.NoEscape"], unfollowed := true, recurses := true, apart := false }
def ARPNilAndInvalidSaid : Prop := aRPNilAndInvalidRow.holds Try.pinned (OpenSpec.ofChange aRPNilAndInvalidSpec)

/-- ITS FALSE NEIGHBOUR: 'it returns false'. Refute it at one input. -/
def aRPNilAndInvalidWrong : ChangeSpec := { name := "aRPNilAndInvalid", fn := fun _ => fun
  | [d1, d2] => { results := [.lit (.bool false)], args := [d1, d2] }
  | _ => none }
def ARPNilAndInvalidWrongFalsely : Prop := aRPNilAndInvalidRow.holds Try.pinned (OpenSpec.ofChange aRPNilAndInvalidWrong)

/- THE SECOND FORM. 'bulk': how many values and letters a reading holds, each counted each time it is reached (what is shared counts as often as it is met; a slice's spare places count too). A statement '..UptoSaid' is the law's where the arguments, and the package variables that the reading takes, are together of bulk at most 1048576: NARROWER than '..Said'. Prove '..Said' where nothing that the law and all that it calls make is longer than what came in: it says more and counts as full. Else prove '..UptoSaid'. A law counts once. -/
mutual
def uptoBulk {H : Type} : DataW H → Nat
  | .lit (.string bytes) => bytes.length + 1
  | .lit _ => 1
  | .nil => 1
  | .ptr d => uptoBulk d + 1
  | .slice elems spare => uptoBulkAll elems + uptoBulkAll spare + 1
  | .agg parts => uptoBulkAll parts + 1
  | .iface _ d => uptoBulk d + 1
  | .map entries => uptoBulkEntries entries + 1
  | .held _ => 1
def uptoBulkAll {H : Type} : List (DataW H) → Nat
  | [] => 0
  | d :: r => uptoBulk d + uptoBulkAll r
def uptoBulkEntries {H : Type} : List (Lit × DataW H) → Nat
  | [] => 0
  | x :: r => uptoBulkEntry x + uptoBulkEntries r
def uptoBulkEntry {H : Type} : Lit × DataW H → Nat
  | (.string bytes, d) => bytes.length + uptoBulk d + 1
  | (_, d) => uptoBulk d + 1
 end
def uptoSmall : (H : Type) → List (DataW H) → Bool := fun _ ds => decide (uptoBulkAll ds ≤ 1048576)
def OpenSpec.upto (s : _root_.Go.ChangeSpec) : _root_.Go.OpenSpec := { _root_.Go.OpenSpec.ofChange s with cond := some uptoSmall }

/-- 'stagepostlaw05.ARPEncoding', WHERE WHAT IT READS IS OF BULK AT MOST 1048576: true; the input reads as it did. -/
def aRPEncodingUptoRow : OpenClaim := { program := "ytjdoemmfemogmaa", sum := "e408f9f8f5b94627162f1e6089a344dbea2141abcedf82662a1f42501316d6d2", func := "stagepost/stagepostlaw05.ARPEncoding", spec := "aRPEncoding", inPlace := ["internal/abi.NoEscape"], unfollowed := true, recurses := true, apart := false, narrowed := true }
def ARPEncodingUptoSaid : Prop := aRPEncodingUptoRow.holds Try.pinned (OpenSpec.upto aRPEncodingSpec)

/-- 'stagepostlaw05.ARPDefendsAddress', WHERE WHAT IT READS IS OF BULK AT MOST 1048576: true; the input reads as it did. -/
def aRPDefendsAddressUptoRow : OpenClaim := { program := "ytjdoemmfemogmaa", sum := "e408f9f8f5b94627162f1e6089a344dbea2141abcedf82662a1f42501316d6d2", func := "stagepost/stagepostlaw05.ARPDefendsAddress", spec := "aRPDefendsAddress", inPlace := ["internal/abi.NoEscape"], unfollowed := true, recurses := true, apart := false, narrowed := true }
def ARPDefendsAddressUptoSaid : Prop := aRPDefendsAddressUptoRow.holds Try.pinned (OpenSpec.upto aRPDefendsAddressSpec)

/-- 'stagepostlaw05.ARPIgnoresUnsolicited', WHERE WHAT IT READS IS OF BULK AT MOST 1048576: true; the input reads as it did. -/
def aRPIgnoresUnsolicitedUptoRow : OpenClaim := { program := "ytjdoemmfemogmaa", sum := "e408f9f8f5b94627162f1e6089a344dbea2141abcedf82662a1f42501316d6d2", func := "stagepost/stagepostlaw05.ARPIgnoresUnsolicited", spec := "aRPIgnoresUnsolicited", inPlace := ["internal/abi.NoEscape"], unfollowed := true, recurses := true, apart := false, narrowed := true }
def ARPIgnoresUnsolicitedUptoSaid : Prop := aRPIgnoresUnsolicitedUptoRow.holds Try.pinned (OpenSpec.upto aRPIgnoresUnsolicitedSpec)

/-- 'stagepostlaw05.ARPRequestReply', WHERE WHAT IT READS IS OF BULK AT MOST 1048576: true; the input reads as it did. -/
def aRPRequestReplyUptoRow : OpenClaim := { program := "ytjdoemmfemogmaa", sum := "e408f9f8f5b94627162f1e6089a344dbea2141abcedf82662a1f42501316d6d2", func := "stagepost/stagepostlaw05.ARPRequestReply", spec := "aRPRequestReply", inPlace := ["internal/abi.NoEscape"], unfollowed := true, recurses := true, apart := false, narrowed := true }
def ARPRequestReplyUptoSaid : Prop := aRPRequestReplyUptoRow.holds Try.pinned (OpenSpec.upto aRPRequestReplySpec)

/-- 'stagepostlaw05.ARPMatchesReference', WHERE WHAT IT READS IS OF BULK AT MOST 1048576: true; the input reads as it did. -/
def aRPMatchesReferenceUptoRow : OpenClaim := { program := "ytjdoemmfemogmaa", sum := "e408f9f8f5b94627162f1e6089a344dbea2141abcedf82662a1f42501316d6d2", func := "stagepost/stagepostlaw05.ARPMatchesReference", spec := "aRPMatchesReference", inPlace := ["internal/abi.NoEscape"], unfollowed := true, recurses := true, apart := false, narrowed := true }
def ARPMatchesReferenceUptoSaid : Prop := aRPMatchesReferenceUptoRow.holds Try.pinned (OpenSpec.upto aRPMatchesReferenceSpec)

/-- 'stagepostlaw05.ARPBounds', WHERE WHAT IT READS IS OF BULK AT MOST 1048576: true; the input reads as it did. -/
def aRPBoundsUptoRow : OpenClaim := { program := "ytjdoemmfemogmaa", sum := "e408f9f8f5b94627162f1e6089a344dbea2141abcedf82662a1f42501316d6d2", func := "stagepost/stagepostlaw05.ARPBounds", spec := "aRPBounds", inPlace := ["internal/abi.NoEscape"], unfollowed := true, recurses := true, apart := false, narrowed := true }
def ARPBoundsUptoSaid : Prop := aRPBoundsUptoRow.holds Try.pinned (OpenSpec.upto aRPBoundsSpec)

/-- 'stagepostlaw05.ARPKeepsActiveEntries', WHERE WHAT IT READS IS OF BULK AT MOST 1048576: true; the input reads as it did. -/
def aRPKeepsActiveEntriesUptoRow : OpenClaim := { program := "ytjdoemmfemogmaa", sum := "e408f9f8f5b94627162f1e6089a344dbea2141abcedf82662a1f42501316d6d2", func := "stagepost/stagepostlaw05.ARPKeepsActiveEntries", spec := "aRPKeepsActiveEntries", inPlace := ["internal/abi.NoEscape"], unfollowed := true, recurses := true, apart := false, narrowed := true }
def ARPKeepsActiveEntriesUptoSaid : Prop := aRPKeepsActiveEntriesUptoRow.holds Try.pinned (OpenSpec.upto aRPKeepsActiveEntriesSpec)

/-- 'stagepostlaw05.ARPDeliversOnce', WHERE WHAT IT READS IS OF BULK AT MOST 1048576: true; the input reads as it did. -/
def aRPDeliversOnceUptoRow : OpenClaim := { program := "ytjdoemmfemogmaa", sum := "e408f9f8f5b94627162f1e6089a344dbea2141abcedf82662a1f42501316d6d2", func := "stagepost/stagepostlaw05.ARPDeliversOnce", spec := "aRPDeliversOnce", inPlace := ["internal/abi.NoEscape"], unfollowed := true, recurses := true, apart := false, narrowed := true }
def ARPDeliversOnceUptoSaid : Prop := aRPDeliversOnceUptoRow.holds Try.pinned (OpenSpec.upto aRPDeliversOnceSpec)

/-- 'stagepostlaw05.ARPNilAndInvalid', WHERE WHAT IT READS IS OF BULK AT MOST 1048576: true; the input reads as it did. -/
def aRPNilAndInvalidUptoRow : OpenClaim := { program := "ytjdoemmfemogmaa", sum := "e408f9f8f5b94627162f1e6089a344dbea2141abcedf82662a1f42501316d6d2", func := "stagepost/stagepostlaw05.ARPNilAndInvalid", spec := "aRPNilAndInvalid", inPlace := ["internal/abi.NoEscape"], unfollowed := true, recurses := true, apart := false, narrowed := true }
def ARPNilAndInvalidUptoSaid : Prop := aRPNilAndInvalidUptoRow.holds Try.pinned (OpenSpec.upto aRPNilAndInvalidSpec)

end Rows
end Go.Proofs.Ytjdoemmfemogmaa
