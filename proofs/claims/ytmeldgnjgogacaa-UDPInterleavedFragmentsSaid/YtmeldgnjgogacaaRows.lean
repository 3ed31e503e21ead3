/-
  No cell of these rows narrows 'for every input' (looked for: loops, veiled, ifaces, maps, wideKeys, modest, calm, conditions, laid).
  DERIVED. THE GIVEN ROWS OF THIS SEAT. 9 by the template 'for every input the law returns true; each argument reads behind the call as it read before'; 0 by the template 'total and deterministic' (their statements: YtmeldgnjgogacaaTotals.lean).
  GIVEN WITH THE SEED: the statements are not yours to turn. If you find one false, say at which input.
  Laid BY PROGRAM, IN A SANDBOX (cutbox-rows.mjs): the forced cells as the released guide's own fill.sh prints them over the translation 991fb346b0e06ce5… (all of the seat's roots in one cut). By AI agents, Wed Nov 11 2026. No macro, syntax, notation, axiom, sorry.
-/
import Derived.Test.YtmeldgnjgogacaaChecked
import GoSem.Claim
import GoSem.ClaimJoined
import GoSem.ClaimMapViews
import Derived.JoinedTies
import Derived.KernelRfl
namespace Go.Proofs.Ytmeldgnjgogacaa
/- THE CELL 'sum', in the pinned program and in every row, IS THE sha256 OF THE DUMP (.gsa) THAT YtmeldgnjgogacaaProg.lean LOADS. Nothing in Lean hashes anything: it is a label: what it is worth is what the hold of that sum in a sandbox is worth. -/
noncomputable def Try.pinned : Pinned := { name := "ytmeldgnjgogacaa", sum := "991fb346b0e06ce5d081849fd94b6b4bc391e0985d50a9f77a8688c2b2bf8ae9", checked := Try.checked }
namespace Rows
def none {H : Type} : Left H := { results := [], args := [] }

/-- 'stagepostlaw07.ReassemblyExpiryMatchesReference': WHATEVER THE INPUT: true; the input reads as it did. -/
def reassemblyExpiryMatchesReferenceSpec : ChangeSpec := { name := "reassemblyExpiryMatchesReference", fn := fun _ => fun
  | [d1, d2, d3] => { results := [.lit (.bool true)], args := [d1, d2, d3] }
  | _ => none }
def reassemblyExpiryMatchesReferenceRow : OpenClaim := { program := "ytmeldgnjgogacaa", sum := "991fb346b0e06ce5d081849fd94b6b4bc391e0985d50a9f77a8688c2b2bf8ae9", func := "stagepost/stagepostlaw07.ReassemblyExpiryMatchesReference", spec := "reassemblyExpiryMatchesReference", unfollowed := true, recurses := true, plainKeys := false, apart := false }
def ReassemblyExpiryMatchesReferenceSaid : Prop := reassemblyExpiryMatchesReferenceRow.holds Try.pinned (OpenSpec.ofChange reassemblyExpiryMatchesReferenceSpec)

/-- ITS FALSE NEIGHBOUR: 'it returns false'. Refute it at one input. -/
def reassemblyExpiryMatchesReferenceWrong : ChangeSpec := { name := "reassemblyExpiryMatchesReference", fn := fun _ => fun
  | [d1, d2, d3] => { results := [.lit (.bool false)], args := [d1, d2, d3] }
  | _ => none }
def ReassemblyExpiryMatchesReferenceWrongFalsely : Prop := reassemblyExpiryMatchesReferenceRow.holds Try.pinned (OpenSpec.ofChange reassemblyExpiryMatchesReferenceWrong)

/-- 'stagepostlaw07.ReassemblyAnyOrder': WHATEVER THE INPUT: true; the input reads as it did. -/
def reassemblyAnyOrderSpec : ChangeSpec := { name := "reassemblyAnyOrder", fn := fun _ => fun
  | [d1, d2, d3] => { results := [.lit (.bool true)], args := [d1, d2, d3] }
  | _ => none }
def reassemblyAnyOrderRow : OpenClaim := { program := "ytmeldgnjgogacaa", sum := "991fb346b0e06ce5d081849fd94b6b4bc391e0985d50a9f77a8688c2b2bf8ae9", func := "stagepost/stagepostlaw07.ReassemblyAnyOrder", spec := "reassemblyAnyOrder", unfollowed := true, recurses := true, plainKeys := false, apart := false }
def ReassemblyAnyOrderSaid : Prop := reassemblyAnyOrderRow.holds Try.pinned (OpenSpec.ofChange reassemblyAnyOrderSpec)

/-- ITS FALSE NEIGHBOUR: 'it returns false'. Refute it at one input. -/
def reassemblyAnyOrderWrong : ChangeSpec := { name := "reassemblyAnyOrder", fn := fun _ => fun
  | [d1, d2, d3] => { results := [.lit (.bool false)], args := [d1, d2, d3] }
  | _ => none }
def ReassemblyAnyOrderWrongFalsely : Prop := reassemblyAnyOrderRow.holds Try.pinned (OpenSpec.ofChange reassemblyAnyOrderWrong)

/-- 'stagepostlaw07.ReassemblyIndependent': WHATEVER THE INPUT: true; the input reads as it did. -/
def reassemblyIndependentSpec : ChangeSpec := { name := "reassemblyIndependent", fn := fun _ => fun
  | [d1, d2, d3] => { results := [.lit (.bool true)], args := [d1, d2, d3] }
  | _ => none }
def reassemblyIndependentRow : OpenClaim := { program := "ytmeldgnjgogacaa", sum := "991fb346b0e06ce5d081849fd94b6b4bc391e0985d50a9f77a8688c2b2bf8ae9", func := "stagepost/stagepostlaw07.ReassemblyIndependent", spec := "reassemblyIndependent", unfollowed := true, recurses := true, plainKeys := false, apart := false }
def ReassemblyIndependentSaid : Prop := reassemblyIndependentRow.holds Try.pinned (OpenSpec.ofChange reassemblyIndependentSpec)

/-- ITS FALSE NEIGHBOUR: 'it returns false'. Refute it at one input. -/
def reassemblyIndependentWrong : ChangeSpec := { name := "reassemblyIndependent", fn := fun _ => fun
  | [d1, d2, d3] => { results := [.lit (.bool false)], args := [d1, d2, d3] }
  | _ => none }
def ReassemblyIndependentWrongFalsely : Prop := reassemblyIndependentRow.holds Try.pinned (OpenSpec.ofChange reassemblyIndependentWrong)

/-- 'stagepostlaw07.ReassemblyRejectsConflicts': WHATEVER THE INPUT: true; the input reads as it did. -/
def reassemblyRejectsConflictsSpec : ChangeSpec := { name := "reassemblyRejectsConflicts", fn := fun _ => fun
  | [d1, d2, d3] => { results := [.lit (.bool true)], args := [d1, d2, d3] }
  | _ => none }
def reassemblyRejectsConflictsRow : OpenClaim := { program := "ytmeldgnjgogacaa", sum := "991fb346b0e06ce5d081849fd94b6b4bc391e0985d50a9f77a8688c2b2bf8ae9", func := "stagepost/stagepostlaw07.ReassemblyRejectsConflicts", spec := "reassemblyRejectsConflicts", unfollowed := true, recurses := true, plainKeys := false, apart := false }
def ReassemblyRejectsConflictsSaid : Prop := reassemblyRejectsConflictsRow.holds Try.pinned (OpenSpec.ofChange reassemblyRejectsConflictsSpec)

/-- ITS FALSE NEIGHBOUR: 'it returns false'. Refute it at one input. -/
def reassemblyRejectsConflictsWrong : ChangeSpec := { name := "reassemblyRejectsConflicts", fn := fun _ => fun
  | [d1, d2, d3] => { results := [.lit (.bool false)], args := [d1, d2, d3] }
  | _ => none }
def ReassemblyRejectsConflictsWrongFalsely : Prop := reassemblyRejectsConflictsRow.holds Try.pinned (OpenSpec.ofChange reassemblyRejectsConflictsWrong)

/-- 'stagepostlaw07.ReassemblyBounded': WHATEVER THE INPUT: true; the input reads as it did. -/
def reassemblyBoundedSpec : ChangeSpec := { name := "reassemblyBounded", fn := fun _ => fun
  | [d] => { results := [.lit (.bool true)], args := [d] }
  | _ => none }
def reassemblyBoundedRow : OpenClaim := { program := "ytmeldgnjgogacaa", sum := "991fb346b0e06ce5d081849fd94b6b4bc391e0985d50a9f77a8688c2b2bf8ae9", func := "stagepost/stagepostlaw07.ReassemblyBounded", spec := "reassemblyBounded", unfollowed := true, recurses := true, plainKeys := false, apart := false }
def ReassemblyBoundedSaid : Prop := reassemblyBoundedRow.holds Try.pinned (OpenSpec.ofChange reassemblyBoundedSpec)

/-- ITS FALSE NEIGHBOUR: 'it returns false'. Refute it at one input. -/
def reassemblyBoundedWrong : ChangeSpec := { name := "reassemblyBounded", fn := fun _ => fun
  | [d] => { results := [.lit (.bool false)], args := [d] }
  | _ => none }
def ReassemblyBoundedWrongFalsely : Prop := reassemblyBoundedRow.holds Try.pinned (OpenSpec.ofChange reassemblyBoundedWrong)

/-- 'stagepostlaw07.ReassemblyExpiresOnce': WHATEVER THE INPUT: true; the input reads as it did. -/
def reassemblyExpiresOnceSpec : ChangeSpec := { name := "reassemblyExpiresOnce", fn := fun _ => fun
  | [d] => { results := [.lit (.bool true)], args := [d] }
  | _ => none }
def reassemblyExpiresOnceRow : OpenClaim := { program := "ytmeldgnjgogacaa", sum := "991fb346b0e06ce5d081849fd94b6b4bc391e0985d50a9f77a8688c2b2bf8ae9", func := "stagepost/stagepostlaw07.ReassemblyExpiresOnce", spec := "reassemblyExpiresOnce", unfollowed := true, recurses := true, plainKeys := false, apart := false }
def ReassemblyExpiresOnceSaid : Prop := reassemblyExpiresOnceRow.holds Try.pinned (OpenSpec.ofChange reassemblyExpiresOnceSpec)

/-- ITS FALSE NEIGHBOUR: 'it returns false'. Refute it at one input. -/
def reassemblyExpiresOnceWrong : ChangeSpec := { name := "reassemblyExpiresOnce", fn := fun _ => fun
  | [d] => { results := [.lit (.bool false)], args := [d] }
  | _ => none }
def ReassemblyExpiresOnceWrongFalsely : Prop := reassemblyExpiresOnceRow.holds Try.pinned (OpenSpec.ofChange reassemblyExpiresOnceWrong)

/-- 'stagepostlaw07.ReassemblyFromHeaders': WHATEVER THE INPUT: true; the input reads as it did. -/
def reassemblyFromHeadersSpec : ChangeSpec := { name := "reassemblyFromHeaders", fn := fun _ => fun
  | [d1, d2] => { results := [.lit (.bool true)], args := [d1, d2] }
  | _ => none }
def reassemblyFromHeadersRow : OpenClaim := { program := "ytmeldgnjgogacaa", sum := "991fb346b0e06ce5d081849fd94b6b4bc391e0985d50a9f77a8688c2b2bf8ae9", func := "stagepost/stagepostlaw07.ReassemblyFromHeaders", spec := "reassemblyFromHeaders", inPlace := ["internal/abi.NoEscape"], unfollowed := true, recurses := true, plainKeys := false, apart := false }
def ReassemblyFromHeadersSaid : Prop := reassemblyFromHeadersRow.holds Try.pinned (OpenSpec.ofChange reassemblyFromHeadersSpec)

/-- ITS FALSE NEIGHBOUR: 'it returns false'. Refute it at one input. -/
def reassemblyFromHeadersWrong : ChangeSpec := { name := "reassemblyFromHeaders", fn := fun _ => fun
  | [d1, d2] => { results := [.lit (.bool false)], args := [d1, d2] }
  | _ => none }
def ReassemblyFromHeadersWrongFalsely : Prop := reassemblyFromHeadersRow.holds Try.pinned (OpenSpec.ofChange reassemblyFromHeadersWrong)

/-- 'stagepostlaw10.UDPFragmentsInAnyOrder': WHATEVER THE INPUT: true; the input reads as it did. -/
def uDPFragmentsInAnyOrderSpec : ChangeSpec := { name := "uDPFragmentsInAnyOrder", fn := fun _ => fun
  | [d1, d2, d3, d4] => { results := [.lit (.bool true)], args := [d1, d2, d3, d4] }
  | _ => none }
def uDPFragmentsInAnyOrderRow : OpenClaim := { program := "ytmeldgnjgogacaa", sum := "991fb346b0e06ce5d081849fd94b6b4bc391e0985d50a9f77a8688c2b2bf8ae9", func := "stagepost/stagepostlaw10.UDPFragmentsInAnyOrder", spec := "uDPFragmentsInAnyOrder", inPlace := ["internal/abi.NoEscape", "internal/bytealg.MakeNoZero"], unfollowed := true, recurses := true, plainKeys := false, apart := false }
def UDPFragmentsInAnyOrderSaid : Prop := uDPFragmentsInAnyOrderRow.holds Try.pinned (OpenSpec.ofChange uDPFragmentsInAnyOrderSpec)

/-- ITS FALSE NEIGHBOUR: 'it returns false'. Refute it at one input. -/
def uDPFragmentsInAnyOrderWrong : ChangeSpec := { name := "uDPFragmentsInAnyOrder", fn := fun _ => fun
  | [d1, d2, d3, d4] => { results := [.lit (.bool false)], args := [d1, d2, d3, d4] }
  | _ => none }
def UDPFragmentsInAnyOrderWrongFalsely : Prop := uDPFragmentsInAnyOrderRow.holds Try.pinned (OpenSpec.ofChange uDPFragmentsInAnyOrderWrong)

/-- 'stagepostlaw10.UDPInterleavedFragments': WHATEVER THE INPUT: true; the input reads as it did. -/
def uDPInterleavedFragmentsSpec : ChangeSpec := { name := "uDPInterleavedFragments", fn := fun _ => fun
  | [d1, d2, d3, d4, d5, d6] => { results := [.lit (.bool true)], args := [d1, d2, d3, d4, d5, d6] }
  | _ => none }
def uDPInterleavedFragmentsRow : OpenClaim := { program := "ytmeldgnjgogacaa", sum := "991fb346b0e06ce5d081849fd94b6b4bc391e0985d50a9f77a8688c2b2bf8ae9", func := "stagepost/stagepostlaw10.UDPInterleavedFragments", spec := "uDPInterleavedFragments", inPlace := ["internal/abi.NoEscape", "internal/bytealg.MakeNoZero"], unfollowed := true, recurses := true, plainKeys := false, apart := false }
def UDPInterleavedFragmentsSaid : Prop := uDPInterleavedFragmentsRow.holds Try.pinned (OpenSpec.ofChange uDPInterleavedFragmentsSpec)

/-- ITS FALSE NEIGHBOUR: 'it returns false'. Refute it at one input. -/
def uDPInterleavedFragmentsWrong : ChangeSpec := { name := "uDPInterleavedFragments", fn := fun _ => fun
  | [d1, d2, d3, d4, d5, d6] => { results := [.lit (.bool false)], args := [d1, d2, d3, d4, d5, d6] }
  | _ => none }
def UDPInterleavedFragmentsWrongFalsely : Prop := uDPInterleavedFragmentsRow.holds Try.pinned (OpenSpec.ofChange uDPInterleavedFragmentsWrong)

/- THE SECOND FORM. 'bulk': how many values and letters a reading holds, each counted each time it is reached (what is shared counts as often as it is met; a slice's spare places count too). A statement '..UptoSaid' is the law's where the arguments, and the package variables that the reading takes, are together of bulk at most 1048576: NARROWER than '..Said'. Prove '..Said' where nothing that the law and all that it calls make is longer than what came in: it says more and counts as full. Else prove '..UptoSaid'. A law counts once. -/
mutual
def uptoBulk {H : Type} : DataW H → Nat
  | .lit (.string bytes) => bytes.length + 1
  | .lit _ => 1
  | .nil => 1
  | .ptr d => uptoBulk d + 1
  | .slice elems spare => uptoBulkAll elems + uptoBulkAll spare + 1
  | .agg parts => uptoBulkAll parts + 1
  | .iface _ d => uptoBulk d + 1
  | .map entries => uptoBulkEntries entries + 1
  | .held _ => 1
def uptoBulkAll {H : Type} : List (DataW H) → Nat
  | [] => 0
  | d :: r => uptoBulk d + uptoBulkAll r
def uptoBulkEntries {H : Type} : List (Lit × DataW H) → Nat
  | [] => 0
  | x :: r => uptoBulkEntry x + uptoBulkEntries r
def uptoBulkEntry {H : Type} : Lit × DataW H → Nat
  | (.string bytes, d) => bytes.length + uptoBulk d + 1
  | (_, d) => uptoBulk d + 1
 end
def uptoSmall : (H : Type) → List (DataW H) → Bool := fun _ ds => decide (uptoBulkAll ds ≤ 1048576)
def OpenSpec.upto (s : _root_.Go.ChangeSpec) : _root_.Go.OpenSpec := { _root_.Go.OpenSpec.ofChange s with cond := some uptoSmall }

/-- 'stagepostlaw07.ReassemblyExpiryMatchesReference', WHERE WHAT IT READS IS OF BULK AT MOST 1048576: true; the input reads as it did. -/
def reassemblyExpiryMatchesReferenceUptoRow : OpenClaim := { program := "ytmeldgnjgogacaa", sum := "991fb346b0e06ce5d081849fd94b6b4bc391e0985d50a9f77a8688c2b2bf8ae9", func := "stagepost/stagepostlaw07.ReassemblyExpiryMatchesReference", spec := "reassemblyExpiryMatchesReference", unfollowed := true, recurses := true, plainKeys := false, apart := false, narrowed := true }
def ReassemblyExpiryMatchesReferenceUptoSaid : Prop := reassemblyExpiryMatchesReferenceUptoRow.holds Try.pinned (OpenSpec.upto reassemblyExpiryMatchesReferenceSpec)

/-- 'stagepostlaw07.ReassemblyAnyOrder', WHERE WHAT IT READS IS OF BULK AT MOST 1048576: true; the input reads as it did. -/
def reassemblyAnyOrderUptoRow : OpenClaim := { program := "ytmeldgnjgogacaa", sum := "991fb346b0e06ce5d081849fd94b6b4bc391e0985d50a9f77a8688c2b2bf8ae9", func := "stagepost/stagepostlaw07.ReassemblyAnyOrder", spec := "reassemblyAnyOrder", unfollowed := true, recurses := true, plainKeys := false, apart := false, narrowed := true }
def ReassemblyAnyOrderUptoSaid : Prop := reassemblyAnyOrderUptoRow.holds Try.pinned (OpenSpec.upto reassemblyAnyOrderSpec)

/-- 'stagepostlaw07.ReassemblyIndependent', WHERE WHAT IT READS IS OF BULK AT MOST 1048576: true; the input reads as it did. -/
def reassemblyIndependentUptoRow : OpenClaim := { program := "ytmeldgnjgogacaa", sum := "991fb346b0e06ce5d081849fd94b6b4bc391e0985d50a9f77a8688c2b2bf8ae9", func := "stagepost/stagepostlaw07.ReassemblyIndependent", spec := "reassemblyIndependent", unfollowed := true, recurses := true, plainKeys := false, apart := false, narrowed := true }
def ReassemblyIndependentUptoSaid : Prop := reassemblyIndependentUptoRow.holds Try.pinned (OpenSpec.upto reassemblyIndependentSpec)

/-- 'stagepostlaw07.ReassemblyRejectsConflicts', WHERE WHAT IT READS IS OF BULK AT MOST 1048576: true; the input reads as it did. -/
def reassemblyRejectsConflictsUptoRow : OpenClaim := { program := "ytmeldgnjgogacaa", sum := "991fb346b0e06ce5d081849fd94b6b4bc391e0985d50a9f77a8688c2b2bf8ae9", func := "stagepost/stagepostlaw07.ReassemblyRejectsConflicts", spec := "reassemblyRejectsConflicts", unfollowed := true, recurses := true, plainKeys := false, apart := false, narrowed := true }
def ReassemblyRejectsConflictsUptoSaid : Prop := reassemblyRejectsConflictsUptoRow.holds Try.pinned (OpenSpec.upto reassemblyRejectsConflictsSpec)

/-- 'stagepostlaw07.ReassemblyBounded', WHERE WHAT IT READS IS OF BULK AT MOST 1048576: true; the input reads as it did. -/
def reassemblyBoundedUptoRow : OpenClaim := { program := "ytmeldgnjgogacaa", sum := "991fb346b0e06ce5d081849fd94b6b4bc391e0985d50a9f77a8688c2b2bf8ae9", func := "stagepost/stagepostlaw07.ReassemblyBounded", spec := "reassemblyBounded", unfollowed := true, recurses := true, plainKeys := false, apart := false, narrowed := true }
def ReassemblyBoundedUptoSaid : Prop := reassemblyBoundedUptoRow.holds Try.pinned (OpenSpec.upto reassemblyBoundedSpec)

/-- 'stagepostlaw07.ReassemblyExpiresOnce', WHERE WHAT IT READS IS OF BULK AT MOST 1048576: true; the input reads as it did. -/
def reassemblyExpiresOnceUptoRow : OpenClaim := { program := "ytmeldgnjgogacaa", sum := "991fb346b0e06ce5d081849fd94b6b4bc391e0985d50a9f77a8688c2b2bf8ae9", func := "stagepost/stagepostlaw07.ReassemblyExpiresOnce", spec := "reassemblyExpiresOnce", unfollowed := true, recurses := true, plainKeys := false, apart := false, narrowed := true }
def ReassemblyExpiresOnceUptoSaid : Prop := reassemblyExpiresOnceUptoRow.holds Try.pinned (OpenSpec.upto reassemblyExpiresOnceSpec)

/-- 'stagepostlaw07.ReassemblyFromHeaders', WHERE WHAT IT READS IS OF BULK AT MOST 1048576: true; the input reads as it did. -/
def reassemblyFromHeadersUptoRow : OpenClaim := { program := "ytmeldgnjgogacaa", sum := "991fb346b0e06ce5d081849fd94b6b4bc391e0985d50a9f77a8688c2b2bf8ae9", func := "stagepost/stagepostlaw07.ReassemblyFromHeaders", spec := "reassemblyFromHeaders", inPlace := ["internal/abi.NoEscape"], unfollowed := true, recurses := true, plainKeys := false, apart := false, narrowed := true }
def ReassemblyFromHeadersUptoSaid : Prop := reassemblyFromHeadersUptoRow.holds Try.pinned (OpenSpec.upto reassemblyFromHeadersSpec)

/-- 'stagepostlaw10.UDPFragmentsInAnyOrder', WHERE WHAT IT READS IS OF BULK AT MOST 1048576: true; the input reads as it did. -/
def uDPFragmentsInAnyOrderUptoRow : OpenClaim := { program := "ytmeldgnjgogacaa", sum := "991fb346b0e06ce5d081849fd94b6b4bc391e0985d50a9f77a8688c2b2bf8ae9", func := "stagepost/stagepostlaw10.UDPFragmentsInAnyOrder", spec := "uDPFragmentsInAnyOrder", inPlace := ["internal/abi.NoEscape", "internal/bytealg.MakeNoZero"], unfollowed := true, recurses := true, plainKeys := false, apart := false, narrowed := true }
def UDPFragmentsInAnyOrderUptoSaid : Prop := uDPFragmentsInAnyOrderUptoRow.holds Try.pinned (OpenSpec.upto uDPFragmentsInAnyOrderSpec)

/-- 'stagepostlaw10.UDPInterleavedFragments', WHERE WHAT IT READS IS OF BULK AT MOST 1048576: true; the input reads as it did. -/
def uDPInterleavedFragmentsUptoRow : OpenClaim := { program := "ytmeldgnjgogacaa", sum := "991fb346b0e06ce5d081849fd94b6b4bc391e0985d50a9f77a8688c2b2bf8ae9", func := "stagepost/stagepostlaw10.UDPInterleavedFragments", spec := "uDPInterleavedFragments", inPlace := ["internal/abi.NoEscape", "internal/bytealg.MakeNoZero"], unfollowed := true, recurses := true, plainKeys := false, apart := false, narrowed := true }
def UDPInterleavedFragmentsUptoSaid : Prop := uDPInterleavedFragmentsUptoRow.holds Try.pinned (OpenSpec.upto uDPInterleavedFragmentsSpec)

end Rows
end Go.Proofs.Ytmeldgnjgogacaa
