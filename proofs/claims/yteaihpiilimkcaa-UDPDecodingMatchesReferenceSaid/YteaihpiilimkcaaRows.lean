/-
  No cell of these rows narrows 'for every input' (looked for: loops, veiled, ifaces, maps, wideKeys, modest, calm, conditions, laid).
  DERIVED. THE GIVEN ROWS OF THIS SEAT. 4 by the template 'for every input the law returns true; each argument reads behind the call as it read before'; 0 by the template 'total and deterministic' (their statements: YteaihpiilimkcaaTotals.lean).
  GIVEN WITH THE SEED: the statements are not yours to turn. If you find one false, say at which input.
  Laid BY PROGRAM, IN A SANDBOX (cutbox-rows.mjs): the forced cells as the released guide's own fill.sh prints them over the translation 841db1fe4d8202ca… (all of the seat's roots in one cut). By AI agents, Wed Nov 11 2026. No macro, syntax, notation, axiom, sorry.
-/
import Derived.Test.YteaihpiilimkcaaChecked
import GoSem.Claim
import GoSem.ClaimJoined
import GoSem.ClaimMapViews
import Derived.JoinedTies
import Derived.KernelRfl
namespace Go.Proofs.Yteaihpiilimkcaa
/- THE CELL 'sum', in the pinned program and in every row, IS THE sha256 OF THE DUMP (.gsa) THAT YteaihpiilimkcaaProg.lean LOADS. Nothing in Lean hashes anything: it is a label: what it is worth is what the hold of that sum in a sandbox is worth. -/
noncomputable def Try.pinned : Pinned := { name := "yteaihpiilimkcaa", sum := "841db1fe4d8202ca02cb26391a0a706c5c9fd631788e9e77ecfbcdf516a6424b", checked := Try.checked }
namespace Rows
def none {H : Type} : Left H := { results := [], args := [] }

/-- 'stagepostlaw10.UDPEncodingMatchesReference': WHATEVER THE INPUT: true; the input reads as it did. -/
def uDPEncodingMatchesReferenceSpec : ChangeSpec := { name := "uDPEncodingMatchesReference", fn := fun _ => fun
  | [d1, d2, d3, d4, d5, d6] => { results := [.lit (.bool true)], args := [d1, d2, d3, d4, d5, d6] }
  | _ => none }
def uDPEncodingMatchesReferenceRow : OpenClaim := { program := "yteaihpiilimkcaa", sum := "841db1fe4d8202ca02cb26391a0a706c5c9fd631788e9e77ecfbcdf516a6424b", func := "stagepost/stagepostlaw10.UDPEncodingMatchesReference", spec := "uDPEncodingMatchesReference", inPlace := ["internal/abi.NoEscape", "internal/bytealg.MakeNoZero"], unfollowed := true, recurses := true, apart := false }
def UDPEncodingMatchesReferenceSaid : Prop := uDPEncodingMatchesReferenceRow.holds Try.pinned (OpenSpec.ofChange uDPEncodingMatchesReferenceSpec)

/-- ITS FALSE NEIGHBOUR: 'it returns false'. Refute it at one input. -/
def uDPEncodingMatchesReferenceWrong : ChangeSpec := { name := "uDPEncodingMatchesReference", fn := fun _ => fun
  | [d1, d2, d3, d4, d5, d6] => { results := [.lit (.bool false)], args := [d1, d2, d3, d4, d5, d6] }
  | _ => none }
def UDPEncodingMatchesReferenceWrongFalsely : Prop := uDPEncodingMatchesReferenceRow.holds Try.pinned (OpenSpec.ofChange uDPEncodingMatchesReferenceWrong)

/-- 'stagepostlaw10.UDPDecodingMatchesReference': WHATEVER THE INPUT: true; the input reads as it did. -/
def uDPDecodingMatchesReferenceSpec : ChangeSpec := { name := "uDPDecodingMatchesReference", fn := fun _ => fun
  | [d1, d2, d3, d4, d5, d6] => { results := [.lit (.bool true)], args := [d1, d2, d3, d4, d5, d6] }
  | _ => none }
def uDPDecodingMatchesReferenceRow : OpenClaim := { program := "yteaihpiilimkcaa", sum := "841db1fe4d8202ca02cb26391a0a706c5c9fd631788e9e77ecfbcdf516a6424b", func := "stagepost/stagepostlaw10.UDPDecodingMatchesReference", spec := "uDPDecodingMatchesReference", inPlace := ["internal/abi.NoEscape", "internal/bytealg.MakeNoZero"], unfollowed := true, recurses := true, apart := false }
def UDPDecodingMatchesReferenceSaid : Prop := uDPDecodingMatchesReferenceRow.holds Try.pinned (OpenSpec.ofChange uDPDecodingMatchesReferenceSpec)

/-- ITS FALSE NEIGHBOUR: 'it returns false'. Refute it at one input. -/
def uDPDecodingMatchesReferenceWrong : ChangeSpec := { name := "uDPDecodingMatchesReference", fn := fun _ => fun
  | [d1, d2, d3, d4, d5, d6] => { results := [.lit (.bool false)], args := [d1, d2, d3, d4, d5, d6] }
  | _ => none }
def UDPDecodingMatchesReferenceWrongFalsely : Prop := uDPDecodingMatchesReferenceRow.holds Try.pinned (OpenSpec.ofChange uDPDecodingMatchesReferenceWrong)

/-- 'stagepostlaw10.UDPRoundTrip': WHATEVER THE INPUT: true; the input reads as it did. -/
def uDPRoundTripSpec : ChangeSpec := { name := "uDPRoundTrip", fn := fun _ => fun
  | [d1, d2, d3] => { results := [.lit (.bool true)], args := [d1, d2, d3] }
  | _ => none }
def uDPRoundTripRow : OpenClaim := { program := "yteaihpiilimkcaa", sum := "841db1fe4d8202ca02cb26391a0a706c5c9fd631788e9e77ecfbcdf516a6424b", func := "stagepost/stagepostlaw10.UDPRoundTrip", spec := "uDPRoundTrip", inPlace := ["internal/abi.NoEscape", "internal/bytealg.MakeNoZero"], unfollowed := true, recurses := true, apart := false }
def UDPRoundTripSaid : Prop := uDPRoundTripRow.holds Try.pinned (OpenSpec.ofChange uDPRoundTripSpec)

/-- ITS FALSE NEIGHBOUR: 'it returns false'. Refute it at one input. -/
def uDPRoundTripWrong : ChangeSpec := { name := "uDPRoundTrip", fn := fun _ => fun
  | [d1, d2, d3] => { results := [.lit (.bool false)], args := [d1, d2, d3] }
  | _ => none }
def UDPRoundTripWrongFalsely : Prop := uDPRoundTripRow.holds Try.pinned (OpenSpec.ofChange uDPRoundTripWrong)

/-- 'stagepostlaw10.UDPPayload': WHATEVER THE INPUT: true; the input reads as it did. -/
def uDPPayloadSpec : ChangeSpec := { name := "uDPPayload", fn := fun _ => fun
  | [d1, d2] => { results := [.lit (.bool true)], args := [d1, d2] }
  | _ => none }
def uDPPayloadRow : OpenClaim := { program := "yteaihpiilimkcaa", sum := "841db1fe4d8202ca02cb26391a0a706c5c9fd631788e9e77ecfbcdf516a6424b", func := "stagepost/stagepostlaw10.UDPPayload", spec := "uDPPayload", inPlace := ["internal/abi.NoEscape", "internal/bytealg.MakeNoZero"], unfollowed := true, recurses := true, apart := false }
def UDPPayloadSaid : Prop := uDPPayloadRow.holds Try.pinned (OpenSpec.ofChange uDPPayloadSpec)

/-- ITS FALSE NEIGHBOUR: 'it returns false'. Refute it at one input. -/
def uDPPayloadWrong : ChangeSpec := { name := "uDPPayload", fn := fun _ => fun
  | [d1, d2] => { results := [.lit (.bool false)], args := [d1, d2] }
  | _ => none }
def UDPPayloadWrongFalsely : Prop := uDPPayloadRow.holds Try.pinned (OpenSpec.ofChange uDPPayloadWrong)

/- THE SECOND FORM. 'bulk': how many values and letters a reading holds, each counted each time it is reached (what is shared counts as often as it is met; a slice's spare places count too). A statement '..UptoSaid' is the law's where the arguments, and the package variables that the reading takes, are together of bulk at most 1048576: NARROWER than '..Said'. Prove '..Said' where nothing that the law and all that it calls make is longer than what came in: it says more and counts as full. Else prove '..UptoSaid'. A law counts once. -/
mutual
def uptoBulk {H : Type} : DataW H → Nat
  | .lit (.string bytes) => bytes.length + 1
  | .lit _ => 1
  | .nil => 1
  | .ptr d => uptoBulk d + 1
  | .slice elems spare => uptoBulkAll elems + uptoBulkAll spare + 1
  | .agg parts => uptoBulkAll parts + 1
  | .iface _ d => uptoBulk d + 1
  | .map entries => uptoBulkEntries entries + 1
  | .held _ => 1
def uptoBulkAll {H : Type} : List (DataW H) → Nat
  | [] => 0
  | d :: r => uptoBulk d + uptoBulkAll r
def uptoBulkEntries {H : Type} : List (Lit × DataW H) → Nat
  | [] => 0
  | x :: r => uptoBulkEntry x + uptoBulkEntries r
def uptoBulkEntry {H : Type} : Lit × DataW H → Nat
  | (.string bytes, d) => bytes.length + uptoBulk d + 1
  | (_, d) => uptoBulk d + 1
 end
def uptoSmall : (H : Type) → List (DataW H) → Bool := fun _ ds => decide (uptoBulkAll ds ≤ 1048576)
def OpenSpec.upto (s : _root_.Go.ChangeSpec) : _root_.Go.OpenSpec := { _root_.Go.OpenSpec.ofChange s with cond := some uptoSmall }

/-- 'stagepostlaw10.UDPEncodingMatchesReference', WHERE WHAT IT READS IS OF BULK AT MOST 1048576: true; the input reads as it did. -/
def uDPEncodingMatchesReferenceUptoRow : OpenClaim := { program := "yteaihpiilimkcaa", sum := "841db1fe4d8202ca02cb26391a0a706c5c9fd631788e9e77ecfbcdf516a6424b", func := "stagepost/stagepostlaw10.UDPEncodingMatchesReference", spec := "uDPEncodingMatchesReference", inPlace := ["internal/abi.NoEscape", "internal/bytealg.MakeNoZero"], unfollowed := true, recurses := true, apart := false, narrowed := true }
def UDPEncodingMatchesReferenceUptoSaid : Prop := uDPEncodingMatchesReferenceUptoRow.holds Try.pinned (OpenSpec.upto uDPEncodingMatchesReferenceSpec)

/-- 'stagepostlaw10.UDPDecodingMatchesReference', WHERE WHAT IT READS IS OF BULK AT MOST 1048576: true; the input reads as it did. -/
def uDPDecodingMatchesReferenceUptoRow : OpenClaim := { program := "yteaihpiilimkcaa", sum := "841db1fe4d8202ca02cb26391a0a706c5c9fd631788e9e77ecfbcdf516a6424b", func := "stagepost/stagepostlaw10.UDPDecodingMatchesReference", spec := "uDPDecodingMatchesReference", inPlace := ["internal/abi.NoEscape", "internal/bytealg.MakeNoZero"], unfollowed := true, recurses := true, apart := false, narrowed := true }
def UDPDecodingMatchesReferenceUptoSaid : Prop := uDPDecodingMatchesReferenceUptoRow.holds Try.pinned (OpenSpec.upto uDPDecodingMatchesReferenceSpec)

/-- 'stagepostlaw10.UDPRoundTrip', WHERE WHAT IT READS IS OF BULK AT MOST 1048576: true; the input reads as it did. -/
def uDPRoundTripUptoRow : OpenClaim := { program := "yteaihpiilimkcaa", sum := "841db1fe4d8202ca02cb26391a0a706c5c9fd631788e9e77ecfbcdf516a6424b", func := "stagepost/stagepostlaw10.UDPRoundTrip", spec := "uDPRoundTrip", inPlace := ["internal/abi.NoEscape", "internal/bytealg.MakeNoZero"], unfollowed := true, recurses := true, apart := false, narrowed := true }
def UDPRoundTripUptoSaid : Prop := uDPRoundTripUptoRow.holds Try.pinned (OpenSpec.upto uDPRoundTripSpec)

/-- 'stagepostlaw10.UDPPayload', WHERE WHAT IT READS IS OF BULK AT MOST 1048576: true; the input reads as it did. -/
def uDPPayloadUptoRow : OpenClaim := { program := "yteaihpiilimkcaa", sum := "841db1fe4d8202ca02cb26391a0a706c5c9fd631788e9e77ecfbcdf516a6424b", func := "stagepost/stagepostlaw10.UDPPayload", spec := "uDPPayload", inPlace := ["internal/abi.NoEscape", "internal/bytealg.MakeNoZero"], unfollowed := true, recurses := true, apart := false, narrowed := true }
def UDPPayloadUptoSaid : Prop := uDPPayloadUptoRow.holds Try.pinned (OpenSpec.upto uDPPayloadSpec)

end Rows
end Go.Proofs.Yteaihpiilimkcaa
