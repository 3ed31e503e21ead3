/-
  No cell of these rows narrows 'for every input' (looked for: loops, veiled, ifaces, maps, wideKeys, modest, calm, conditions, laid).
  DERIVED. THE GIVEN ROWS OF THIS SEAT. 7 by the template 'for every input the law returns true; each argument reads behind the call as it read before'; 0 by the template 'total and deterministic' (their statements: YtkinlmanimdlcaaTotals.lean).
  GIVEN WITH THE SEED: the statements are not yours to turn. If you find one false, say at which input.
  Laid BY PROGRAM, IN A SANDBOX (cutbox-rows.mjs): the forced cells as the released guide's own fill.sh prints them over the translation f87d61d9ba589f83… (all of the seat's roots in one cut). By AI agents, Wed Nov 11 2026. No macro, syntax, notation, axiom, sorry.
-/
import Derived.Test.YtkinlmanimdlcaaChecked
import GoSem.Claim
import GoSem.ClaimJoined
import GoSem.ClaimMapViews
import Derived.JoinedTies
import Derived.KernelRfl
namespace Go.Proofs.Ytkinlmanimdlcaa
/- THE CELL 'sum', in the pinned program and in every row, IS THE sha256 OF THE DUMP (.gsa) THAT YtkinlmanimdlcaaProg.lean LOADS. Nothing in Lean hashes anything: it is a label: what it is worth is what the hold of that sum in a sandbox is worth. -/
noncomputable def Try.pinned : Pinned := { name := "ytkinlmanimdlcaa", sum := "f87d61d9ba589f83f75f52d9787f7a10d6904d3578d38952c4c521aa75baa19a", checked := Try.checked }
namespace Rows
def none {H : Type} : Left H := { results := [], args := [] }

/-- 'stagepostlaw11.SegmentEncodesLikeReference': WHATEVER THE INPUT: true; the input reads as it did. -/
def segmentEncodesLikeReferenceSpec : ChangeSpec := { name := "segmentEncodesLikeReference", fn := fun _ => fun
  | [d1, d2, d3, d4, d5] => { results := [.lit (.bool true)], args := [d1, d2, d3, d4, d5] }
  | _ => none }
def segmentEncodesLikeReferenceRow : OpenClaim := { program := "ytkinlmanimdlcaa", sum := "f87d61d9ba589f83f75f52d9787f7a10d6904d3578d38952c4c521aa75baa19a", func := "stagepost/stagepostlaw11.SegmentEncodesLikeReference", spec := "segmentEncodesLikeReference", inPlace := ["internal/abi.NoEscape"], unfollowed := true, recurses := true, apart := false }
def SegmentEncodesLikeReferenceSaid : Prop := segmentEncodesLikeReferenceRow.holds Try.pinned (OpenSpec.ofChange segmentEncodesLikeReferenceSpec)

/-- ITS FALSE NEIGHBOUR: 'it returns false'. Refute it at one input. -/
def segmentEncodesLikeReferenceWrong : ChangeSpec := { name := "segmentEncodesLikeReference", fn := fun _ => fun
  | [d1, d2, d3, d4, d5] => { results := [.lit (.bool false)], args := [d1, d2, d3, d4, d5] }
  | _ => none }
def SegmentEncodesLikeReferenceWrongFalsely : Prop := segmentEncodesLikeReferenceRow.holds Try.pinned (OpenSpec.ofChange segmentEncodesLikeReferenceWrong)

/-- 'stagepostlaw11.SegmentDecodesLikeReference': WHATEVER THE INPUT: true; the input reads as it did. -/
def segmentDecodesLikeReferenceSpec : ChangeSpec := { name := "segmentDecodesLikeReference", fn := fun _ => fun
  | [d1, d2, d3, d4, d5, d6, d7] => { results := [.lit (.bool true)], args := [d1, d2, d3, d4, d5, d6, d7] }
  | _ => none }
def segmentDecodesLikeReferenceRow : OpenClaim := { program := "ytkinlmanimdlcaa", sum := "f87d61d9ba589f83f75f52d9787f7a10d6904d3578d38952c4c521aa75baa19a", func := "stagepost/stagepostlaw11.SegmentDecodesLikeReference", spec := "segmentDecodesLikeReference", inPlace := ["internal/abi.NoEscape"], unfollowed := true, recurses := true, apart := false }
def SegmentDecodesLikeReferenceSaid : Prop := segmentDecodesLikeReferenceRow.holds Try.pinned (OpenSpec.ofChange segmentDecodesLikeReferenceSpec)

/-- ITS FALSE NEIGHBOUR: 'it returns false'. Refute it at one input. -/
def segmentDecodesLikeReferenceWrong : ChangeSpec := { name := "segmentDecodesLikeReference", fn := fun _ => fun
  | [d1, d2, d3, d4, d5, d6, d7] => { results := [.lit (.bool false)], args := [d1, d2, d3, d4, d5, d6, d7] }
  | _ => none }
def SegmentDecodesLikeReferenceWrongFalsely : Prop := segmentDecodesLikeReferenceRow.holds Try.pinned (OpenSpec.ofChange segmentDecodesLikeReferenceWrong)

/-- 'stagepostlaw11.SegmentRoundTrip': WHATEVER THE INPUT: true; the input reads as it did. -/
def segmentRoundTripSpec : ChangeSpec := { name := "segmentRoundTrip", fn := fun _ => fun
  | [d1, d2, d3, d4, d5] => { results := [.lit (.bool true)], args := [d1, d2, d3, d4, d5] }
  | _ => none }
def segmentRoundTripRow : OpenClaim := { program := "ytkinlmanimdlcaa", sum := "f87d61d9ba589f83f75f52d9787f7a10d6904d3578d38952c4c521aa75baa19a", func := "stagepost/stagepostlaw11.SegmentRoundTrip", spec := "segmentRoundTrip", inPlace := ["internal/abi.NoEscape"], unfollowed := true, recurses := true, apart := false }
def SegmentRoundTripSaid : Prop := segmentRoundTripRow.holds Try.pinned (OpenSpec.ofChange segmentRoundTripSpec)

/-- ITS FALSE NEIGHBOUR: 'it returns false'. Refute it at one input. -/
def segmentRoundTripWrong : ChangeSpec := { name := "segmentRoundTrip", fn := fun _ => fun
  | [d1, d2, d3, d4, d5] => { results := [.lit (.bool false)], args := [d1, d2, d3, d4, d5] }
  | _ => none }
def SegmentRoundTripWrongFalsely : Prop := segmentRoundTripRow.holds Try.pinned (OpenSpec.ofChange segmentRoundTripWrong)

/-- 'stagepostlaw11.SegmentDetectsBitFlip': WHATEVER THE INPUT: true; the input reads as it did. -/
def segmentDetectsBitFlipSpec : ChangeSpec := { name := "segmentDetectsBitFlip", fn := fun _ => fun
  | [d1, d2, d3, d4, d5, d6] => { results := [.lit (.bool true)], args := [d1, d2, d3, d4, d5, d6] }
  | _ => none }
def segmentDetectsBitFlipRow : OpenClaim := { program := "ytkinlmanimdlcaa", sum := "f87d61d9ba589f83f75f52d9787f7a10d6904d3578d38952c4c521aa75baa19a", func := "stagepost/stagepostlaw11.SegmentDetectsBitFlip", spec := "segmentDetectsBitFlip", inPlace := ["internal/abi.NoEscape"], unfollowed := true, recurses := true, apart := false }
def SegmentDetectsBitFlipSaid : Prop := segmentDetectsBitFlipRow.holds Try.pinned (OpenSpec.ofChange segmentDetectsBitFlipSpec)

/-- ITS FALSE NEIGHBOUR: 'it returns false'. Refute it at one input. -/
def segmentDetectsBitFlipWrong : ChangeSpec := { name := "segmentDetectsBitFlip", fn := fun _ => fun
  | [d1, d2, d3, d4, d5, d6] => { results := [.lit (.bool false)], args := [d1, d2, d3, d4, d5, d6] }
  | _ => none }
def SegmentDetectsBitFlipWrongFalsely : Prop := segmentDetectsBitFlipRow.holds Try.pinned (OpenSpec.ofChange segmentDetectsBitFlipWrong)

/-- 'stagepostlaw11.SegmentChecksumZero': WHATEVER THE INPUT: true; the input reads as it did. -/
def segmentChecksumZeroSpec : ChangeSpec := { name := "segmentChecksumZero", fn := fun _ => fun
  | [d1, d2, d3, d4] => { results := [.lit (.bool true)], args := [d1, d2, d3, d4] }
  | _ => none }
def segmentChecksumZeroRow : OpenClaim := { program := "ytkinlmanimdlcaa", sum := "f87d61d9ba589f83f75f52d9787f7a10d6904d3578d38952c4c521aa75baa19a", func := "stagepost/stagepostlaw11.SegmentChecksumZero", spec := "segmentChecksumZero", inPlace := ["internal/abi.NoEscape"], unfollowed := true, recurses := true, apart := false }
def SegmentChecksumZeroSaid : Prop := segmentChecksumZeroRow.holds Try.pinned (OpenSpec.ofChange segmentChecksumZeroSpec)

/-- ITS FALSE NEIGHBOUR: 'it returns false'. Refute it at one input. -/
def segmentChecksumZeroWrong : ChangeSpec := { name := "segmentChecksumZero", fn := fun _ => fun
  | [d1, d2, d3, d4] => { results := [.lit (.bool false)], args := [d1, d2, d3, d4] }
  | _ => none }
def SegmentChecksumZeroWrongFalsely : Prop := segmentChecksumZeroRow.holds Try.pinned (OpenSpec.ofChange segmentChecksumZeroWrong)

/-- 'stagepostlaw11.SegmentLength': WHATEVER THE INPUT: true; the input reads as it did. -/
def segmentLengthSpec : ChangeSpec := { name := "segmentLength", fn := fun _ => fun
  | [d1, d2] => { results := [.lit (.bool true)], args := [d1, d2] }
  | _ => none }
def segmentLengthRow : OpenClaim := { program := "ytkinlmanimdlcaa", sum := "f87d61d9ba589f83f75f52d9787f7a10d6904d3578d38952c4c521aa75baa19a", func := "stagepost/stagepostlaw11.SegmentLength", spec := "segmentLength", inPlace := ["internal/abi.NoEscape"], unfollowed := true, recurses := true, apart := false }
def SegmentLengthSaid : Prop := segmentLengthRow.holds Try.pinned (OpenSpec.ofChange segmentLengthSpec)

/-- ITS FALSE NEIGHBOUR: 'it returns false'. Refute it at one input. -/
def segmentLengthWrong : ChangeSpec := { name := "segmentLength", fn := fun _ => fun
  | [d1, d2] => { results := [.lit (.bool false)], args := [d1, d2] }
  | _ => none }
def SegmentLengthWrongFalsely : Prop := segmentLengthRow.holds Try.pinned (OpenSpec.ofChange segmentLengthWrong)

/-- 'stagepostlaw11.SegmentSequenceWraps': WHATEVER THE INPUT: true; the input reads as it did. -/
def segmentSequenceWrapsSpec : ChangeSpec := { name := "segmentSequenceWraps", fn := fun _ => fun
  | [d1, d2, d3, d4] => { results := [.lit (.bool true)], args := [d1, d2, d3, d4] }
  | _ => none }
def segmentSequenceWrapsRow : OpenClaim := { program := "ytkinlmanimdlcaa", sum := "f87d61d9ba589f83f75f52d9787f7a10d6904d3578d38952c4c521aa75baa19a", func := "stagepost/stagepostlaw11.SegmentSequenceWraps", spec := "segmentSequenceWraps", inPlace := ["internal/abi.NoEscape"], unfollowed := true, recurses := true, apart := false }
def SegmentSequenceWrapsSaid : Prop := segmentSequenceWrapsRow.holds Try.pinned (OpenSpec.ofChange segmentSequenceWrapsSpec)

/-- ITS FALSE NEIGHBOUR: 'it returns false'. Refute it at one input. -/
def segmentSequenceWrapsWrong : ChangeSpec := { name := "segmentSequenceWraps", fn := fun _ => fun
  | [d1, d2, d3, d4] => { results := [.lit (.bool false)], args := [d1, d2, d3, d4] }
  | _ => none }
def SegmentSequenceWrapsWrongFalsely : Prop := segmentSequenceWrapsRow.holds Try.pinned (OpenSpec.ofChange segmentSequenceWrapsWrong)

/- THE SECOND FORM. 'bulk': how many values and letters a reading holds, each counted each time it is reached (what is shared counts as often as it is met; a slice's spare places count too). A statement '..UptoSaid' is the law's where the arguments, and the package variables that the reading takes, are together of bulk at most 1048576: NARROWER than '..Said'. Prove '..Said' where nothing that the law and all that it calls make is longer than what came in: it says more and counts as full. Else prove '..UptoSaid'. A law counts once. -/
mutual
def uptoBulk {H : Type} : DataW H → Nat
  | .lit (.string bytes) => bytes.length + 1
  | .lit _ => 1
  | .nil => 1
  | .ptr d => uptoBulk d + 1
  | .slice elems spare => uptoBulkAll elems + uptoBulkAll spare + 1
  | .agg parts => uptoBulkAll parts + 1
  | .iface _ d => uptoBulk d + 1
  | .map entries => uptoBulkEntries entries + 1
  | .held _ => 1
def uptoBulkAll {H : Type} : List (DataW H) → Nat
  | [] => 0
  | d :: r => uptoBulk d + uptoBulkAll r
def uptoBulkEntries {H : Type} : List (Lit × DataW H) → Nat
  | [] => 0
  | x :: r => uptoBulkEntry x + uptoBulkEntries r
def uptoBulkEntry {H : Type} : Lit × DataW H → Nat
  | (.string bytes, d) => bytes.length + uptoBulk d + 1
  | (_, d) => uptoBulk d + 1
 end
def uptoSmall : (H : Type) → List (DataW H) → Bool := fun _ ds => decide (uptoBulkAll ds ≤ 1048576)
def OpenSpec.upto (s : _root_.Go.ChangeSpec) : _root_.Go.OpenSpec := { _root_.Go.OpenSpec.ofChange s with cond := some uptoSmall }

/-- 'stagepostlaw11.SegmentEncodesLikeReference', WHERE WHAT IT READS IS OF BULK AT MOST 1048576: true; the input reads as it did. -/
def segmentEncodesLikeReferenceUptoRow : OpenClaim := { program := "ytkinlmanimdlcaa", sum := "f87d61d9ba589f83f75f52d9787f7a10d6904d3578d38952c4c521aa75baa19a", func := "stagepost/stagepostlaw11.SegmentEncodesLikeReference", spec := "segmentEncodesLikeReference", inPlace := ["internal/abi.NoEscape"], unfollowed := true, recurses := true, apart := false, narrowed := true }
def SegmentEncodesLikeReferenceUptoSaid : Prop := segmentEncodesLikeReferenceUptoRow.holds Try.pinned (OpenSpec.upto segmentEncodesLikeReferenceSpec)

/-- 'stagepostlaw11.SegmentDecodesLikeReference', WHERE WHAT IT READS IS OF BULK AT MOST 1048576: true; the input reads as it did. -/
def segmentDecodesLikeReferenceUptoRow : OpenClaim := { program := "ytkinlmanimdlcaa", sum := "f87d61d9ba589f83f75f52d9787f7a10d6904d3578d38952c4c521aa75baa19a", func := "stagepost/stagepostlaw11.SegmentDecodesLikeReference", spec := "segmentDecodesLikeReference", inPlace := ["internal/abi.NoEscape"], unfollowed := true, recurses := true, apart := false, narrowed := true }
def SegmentDecodesLikeReferenceUptoSaid : Prop := segmentDecodesLikeReferenceUptoRow.holds Try.pinned (OpenSpec.upto segmentDecodesLikeReferenceSpec)

/-- 'stagepostlaw11.SegmentRoundTrip', WHERE WHAT IT READS IS OF BULK AT MOST 1048576: true; the input reads as it did. -/
def segmentRoundTripUptoRow : OpenClaim := { program := "ytkinlmanimdlcaa", sum := "f87d61d9ba589f83f75f52d9787f7a10d6904d3578d38952c4c521aa75baa19a", func := "stagepost/stagepostlaw11.SegmentRoundTrip", spec := "segmentRoundTrip", inPlace := ["internal/abi.NoEscape"], unfollowed := true, recurses := true, apart := false, narrowed := true }
def SegmentRoundTripUptoSaid : Prop := segmentRoundTripUptoRow.holds Try.pinned (OpenSpec.upto segmentRoundTripSpec)

/-- 'stagepostlaw11.SegmentDetectsBitFlip', WHERE WHAT IT READS IS OF BULK AT MOST 1048576: true; the input reads as it did. -/
def segmentDetectsBitFlipUptoRow : OpenClaim := { program := "ytkinlmanimdlcaa", sum := "f87d61d9ba589f83f75f52d9787f7a10d6904d3578d38952c4c521aa75baa19a", func := "stagepost/stagepostlaw11.SegmentDetectsBitFlip", spec := "segmentDetectsBitFlip", inPlace := ["internal/abi.NoEscape"], unfollowed := true, recurses := true, apart := false, narrowed := true }
def SegmentDetectsBitFlipUptoSaid : Prop := segmentDetectsBitFlipUptoRow.holds Try.pinned (OpenSpec.upto segmentDetectsBitFlipSpec)

/-- 'stagepostlaw11.SegmentChecksumZero', WHERE WHAT IT READS IS OF BULK AT MOST 1048576: true; the input reads as it did. -/
def segmentChecksumZeroUptoRow : OpenClaim := { program := "ytkinlmanimdlcaa", sum := "f87d61d9ba589f83f75f52d9787f7a10d6904d3578d38952c4c521aa75baa19a", func := "stagepost/stagepostlaw11.SegmentChecksumZero", spec := "segmentChecksumZero", inPlace := ["internal/abi.NoEscape"], unfollowed := true, recurses := true, apart := false, narrowed := true }
def SegmentChecksumZeroUptoSaid : Prop := segmentChecksumZeroUptoRow.holds Try.pinned (OpenSpec.upto segmentChecksumZeroSpec)

/-- 'stagepostlaw11.SegmentLength', WHERE WHAT IT READS IS OF BULK AT MOST 1048576: true; the input reads as it did. -/
def segmentLengthUptoRow : OpenClaim := { program := "ytkinlmanimdlcaa", sum := "f87d61d9ba589f83f75f52d9787f7a10d6904d3578d38952c4c521aa75baa19a", func := "stagepost/stagepostlaw11.SegmentLength", spec := "segmentLength", inPlace := ["internal/abi.NoEscape"], unfollowed := true, recurses := true, apart := false, narrowed := true }
def SegmentLengthUptoSaid : Prop := segmentLengthUptoRow.holds Try.pinned (OpenSpec.upto segmentLengthSpec)

/-- 'stagepostlaw11.SegmentSequenceWraps', WHERE WHAT IT READS IS OF BULK AT MOST 1048576: true; the input reads as it did. -/
def segmentSequenceWrapsUptoRow : OpenClaim := { program := "ytkinlmanimdlcaa", sum := "f87d61d9ba589f83f75f52d9787f7a10d6904d3578d38952c4c521aa75baa19a", func := "stagepost/stagepostlaw11.SegmentSequenceWraps", spec := "segmentSequenceWraps", inPlace := ["internal/abi.NoEscape"], unfollowed := true, recurses := true, apart := false, narrowed := true }
def SegmentSequenceWrapsUptoSaid : Prop := segmentSequenceWrapsUptoRow.holds Try.pinned (OpenSpec.upto segmentSequenceWrapsSpec)

end Rows
end Go.Proofs.Ytkinlmanimdlcaa
