/-
  No cell of these rows narrows 'for every input' (looked for: loops, veiled, ifaces, maps, wideKeys, modest, calm, conditions, laid).
  DERIVED. THE GIVEN ROWS OF THIS SEAT. 5 by the template 'for every input the law returns true; each argument reads behind the call as it read before'; 0 by the template 'total and deterministic' (their statements: YthdggmigjddneaaTotals.lean).
  GIVEN WITH THE SEED: the statements are not yours to turn. If you find one false, say at which input.
  Laid BY PROGRAM, IN A SANDBOX (cutbox-rows.mjs): the forced cells as the released guide's own fill.sh prints them over the translation 24b556f9e6c6aa72… (all of the seat's roots in one cut). By AI agents, Wed Nov 11 2026. No macro, syntax, notation, axiom, sorry.
-/
import Derived.Test.YthdggmigjddneaaChecked
import GoSem.Claim
import GoSem.ClaimJoined
import GoSem.ClaimMapViews
import Derived.JoinedTies
import Derived.KernelRfl
namespace Go.Proofs.Ythdggmigjddneaa
/- THE CELL 'sum', in the pinned program and in every row, IS THE sha256 OF THE DUMP (.gsa) THAT YthdggmigjddneaaProg.lean LOADS. Nothing in Lean hashes anything: it is a label: what it is worth is what the hold of that sum in a sandbox is worth. -/
noncomputable def Try.pinned : Pinned := { name := "ythdggmigjddneaa", sum := "24b556f9e6c6aa72f6313081032b9a3934d9192d95fafa0aa20ef2511aa9eebe", checked := Try.checked }
namespace Rows
def none {H : Type} : Left H := { results := [], args := [] }

/-- 'stagepostlaw19.DNSEncodesLikeReference': WHATEVER THE INPUT: true; the input reads as it did. -/
def dNSEncodesLikeReferenceSpec : ChangeSpec := { name := "dNSEncodesLikeReference", fn := fun _ => fun
  | [d1, d2, d3, d4, d5] => { results := [.lit (.bool true)], args := [d1, d2, d3, d4, d5] }
  | _ => none }
def dNSEncodesLikeReferenceRow : OpenClaim := { program := "ythdggmigjddneaa", sum := "24b556f9e6c6aa72f6313081032b9a3934d9192d95fafa0aa20ef2511aa9eebe", func := "stagepost/stagepostlaw19.DNSEncodesLikeReference", spec := "dNSEncodesLikeReference", inPlace := ["internal/bytealg.IndexByteString", "internal/bytealg.IndexString", "internal/abi.NoEscape"], unfollowed := true, recurses := true, named := ["internal/bytealg.MaxLen"], apart := false }
def DNSEncodesLikeReferenceSaid : Prop := dNSEncodesLikeReferenceRow.holds Try.pinned (OpenSpec.ofChange dNSEncodesLikeReferenceSpec)

/-- ITS FALSE NEIGHBOUR: 'it returns false'. Refute it at one input. -/
def dNSEncodesLikeReferenceWrong : ChangeSpec := { name := "dNSEncodesLikeReference", fn := fun _ => fun
  | [d1, d2, d3, d4, d5] => { results := [.lit (.bool false)], args := [d1, d2, d3, d4, d5] }
  | _ => none }
def DNSEncodesLikeReferenceWrongFalsely : Prop := dNSEncodesLikeReferenceRow.holds Try.pinned (OpenSpec.ofChange dNSEncodesLikeReferenceWrong)

/-- 'stagepostlaw19.DNSDecodesLikeReference': WHATEVER THE INPUT: true; the input reads as it did. -/
def dNSDecodesLikeReferenceSpec : ChangeSpec := { name := "dNSDecodesLikeReference", fn := fun _ => fun
  | [d1, d2, d3, d4] => { results := [.lit (.bool true)], args := [d1, d2, d3, d4] }
  | _ => none }
def dNSDecodesLikeReferenceRow : OpenClaim := { program := "ythdggmigjddneaa", sum := "24b556f9e6c6aa72f6313081032b9a3934d9192d95fafa0aa20ef2511aa9eebe", func := "stagepost/stagepostlaw19.DNSDecodesLikeReference", spec := "dNSDecodesLikeReference", inPlace := ["internal/bytealg.IndexByteString", "internal/bytealg.IndexString", "internal/abi.NoEscape"], unfollowed := true, recurses := true, named := ["internal/bytealg.MaxLen"], apart := false }
def DNSDecodesLikeReferenceSaid : Prop := dNSDecodesLikeReferenceRow.holds Try.pinned (OpenSpec.ofChange dNSDecodesLikeReferenceSpec)

/-- ITS FALSE NEIGHBOUR: 'it returns false'. Refute it at one input. -/
def dNSDecodesLikeReferenceWrong : ChangeSpec := { name := "dNSDecodesLikeReference", fn := fun _ => fun
  | [d1, d2, d3, d4] => { results := [.lit (.bool false)], args := [d1, d2, d3, d4] }
  | _ => none }
def DNSDecodesLikeReferenceWrongFalsely : Prop := dNSDecodesLikeReferenceRow.holds Try.pinned (OpenSpec.ofChange dNSDecodesLikeReferenceWrong)

/-- 'stagepostlaw19.DNSRoundTrip': WHATEVER THE INPUT: true; the input reads as it did. -/
def dNSRoundTripSpec : ChangeSpec := { name := "dNSRoundTrip", fn := fun _ => fun
  | [d1, d2, d3, d4] => { results := [.lit (.bool true)], args := [d1, d2, d3, d4] }
  | _ => none }
def dNSRoundTripRow : OpenClaim := { program := "ythdggmigjddneaa", sum := "24b556f9e6c6aa72f6313081032b9a3934d9192d95fafa0aa20ef2511aa9eebe", func := "stagepost/stagepostlaw19.DNSRoundTrip", spec := "dNSRoundTrip", inPlace := ["internal/bytealg.IndexByteString", "internal/bytealg.IndexString", "internal/abi.NoEscape"], unfollowed := true, recurses := true, named := ["internal/bytealg.MaxLen"], apart := false }
def DNSRoundTripSaid : Prop := dNSRoundTripRow.holds Try.pinned (OpenSpec.ofChange dNSRoundTripSpec)

/-- ITS FALSE NEIGHBOUR: 'it returns false'. Refute it at one input. -/
def dNSRoundTripWrong : ChangeSpec := { name := "dNSRoundTrip", fn := fun _ => fun
  | [d1, d2, d3, d4] => { results := [.lit (.bool false)], args := [d1, d2, d3, d4] }
  | _ => none }
def DNSRoundTripWrongFalsely : Prop := dNSRoundTripRow.holds Try.pinned (OpenSpec.ofChange dNSRoundTripWrong)

/-- 'stagepostlaw19.DNSNameLabels': WHATEVER THE INPUT: true; the input reads as it did. -/
def dNSNameLabelsSpec : ChangeSpec := { name := "dNSNameLabels", fn := fun _ => fun
  | [d1, d2, d3, d4] => { results := [.lit (.bool true)], args := [d1, d2, d3, d4] }
  | _ => none }
def dNSNameLabelsRow : OpenClaim := { program := "ythdggmigjddneaa", sum := "24b556f9e6c6aa72f6313081032b9a3934d9192d95fafa0aa20ef2511aa9eebe", func := "stagepost/stagepostlaw19.DNSNameLabels", spec := "dNSNameLabels", inPlace := ["internal/bytealg.IndexByteString", "internal/bytealg.IndexString", "internal/abi.NoEscape"], unfollowed := true, recurses := true, named := ["internal/bytealg.MaxLen"], apart := false }
def DNSNameLabelsSaid : Prop := dNSNameLabelsRow.holds Try.pinned (OpenSpec.ofChange dNSNameLabelsSpec)

/-- ITS FALSE NEIGHBOUR: 'it returns false'. Refute it at one input. -/
def dNSNameLabelsWrong : ChangeSpec := { name := "dNSNameLabels", fn := fun _ => fun
  | [d1, d2, d3, d4] => { results := [.lit (.bool false)], args := [d1, d2, d3, d4] }
  | _ => none }
def DNSNameLabelsWrongFalsely : Prop := dNSNameLabelsRow.holds Try.pinned (OpenSpec.ofChange dNSNameLabelsWrong)

/-- 'stagepostlaw19.DNSQueryResponse': WHATEVER THE INPUT: true; the input reads as it did. -/
def dNSQueryResponseSpec : ChangeSpec := { name := "dNSQueryResponse", fn := fun _ => fun
  | [d] => { results := [.lit (.bool true)], args := [d] }
  | _ => none }
def dNSQueryResponseRow : OpenClaim := { program := "ythdggmigjddneaa", sum := "24b556f9e6c6aa72f6313081032b9a3934d9192d95fafa0aa20ef2511aa9eebe", func := "stagepost/stagepostlaw19.DNSQueryResponse", spec := "dNSQueryResponse", inPlace := ["internal/bytealg.IndexByteString", "internal/bytealg.IndexString", "internal/abi.NoEscape"], unfollowed := true, recurses := true, named := ["internal/bytealg.MaxLen"], apart := false }
def DNSQueryResponseSaid : Prop := dNSQueryResponseRow.holds Try.pinned (OpenSpec.ofChange dNSQueryResponseSpec)

/-- ITS FALSE NEIGHBOUR: 'it returns false'. Refute it at one input. -/
def dNSQueryResponseWrong : ChangeSpec := { name := "dNSQueryResponse", fn := fun _ => fun
  | [d] => { results := [.lit (.bool false)], args := [d] }
  | _ => none }
def DNSQueryResponseWrongFalsely : Prop := dNSQueryResponseRow.holds Try.pinned (OpenSpec.ofChange dNSQueryResponseWrong)

/- THE SECOND FORM. 'bulk': how many values and letters a reading holds, each counted each time it is reached (what is shared counts as often as it is met; a slice's spare places count too). A statement '..UptoSaid' is the law's where the arguments, and the package variables that the reading takes, are together of bulk at most 1048576: NARROWER than '..Said'. Prove '..Said' where nothing that the law and all that it calls make is longer than what came in: it says more and counts as full. Else prove '..UptoSaid'. A law counts once. -/
mutual
def uptoBulk {H : Type} : DataW H → Nat
  | .lit (.string bytes) => bytes.length + 1
  | .lit _ => 1
  | .nil => 1
  | .ptr d => uptoBulk d + 1
  | .slice elems spare => uptoBulkAll elems + uptoBulkAll spare + 1
  | .agg parts => uptoBulkAll parts + 1
  | .iface _ d => uptoBulk d + 1
  | .map entries => uptoBulkEntries entries + 1
  | .held _ => 1
def uptoBulkAll {H : Type} : List (DataW H) → Nat
  | [] => 0
  | d :: r => uptoBulk d + uptoBulkAll r
def uptoBulkEntries {H : Type} : List (Lit × DataW H) → Nat
  | [] => 0
  | x :: r => uptoBulkEntry x + uptoBulkEntries r
def uptoBulkEntry {H : Type} : Lit × DataW H → Nat
  | (.string bytes, d) => bytes.length + uptoBulk d + 1
  | (_, d) => uptoBulk d + 1
 end
def uptoSmall : (H : Type) → List (DataW H) → Bool := fun _ ds => decide (uptoBulkAll ds ≤ 1048576)
def OpenSpec.upto (s : _root_.Go.ChangeSpec) : _root_.Go.OpenSpec := { _root_.Go.OpenSpec.ofChange s with cond := some uptoSmall }

/-- 'stagepostlaw19.DNSEncodesLikeReference', WHERE WHAT IT READS IS OF BULK AT MOST 1048576: true; the input reads as it did. -/
def dNSEncodesLikeReferenceUptoRow : OpenClaim := { program := "ythdggmigjddneaa", sum := "24b556f9e6c6aa72f6313081032b9a3934d9192d95fafa0aa20ef2511aa9eebe", func := "stagepost/stagepostlaw19.DNSEncodesLikeReference", spec := "dNSEncodesLikeReference", inPlace := ["internal/bytealg.IndexByteString", "internal/bytealg.IndexString", "internal/abi.NoEscape"], unfollowed := true, recurses := true, named := ["internal/bytealg.MaxLen"], apart := false, narrowed := true }
def DNSEncodesLikeReferenceUptoSaid : Prop := dNSEncodesLikeReferenceUptoRow.holds Try.pinned (OpenSpec.upto dNSEncodesLikeReferenceSpec)

/-- 'stagepostlaw19.DNSDecodesLikeReference', WHERE WHAT IT READS IS OF BULK AT MOST 1048576: true; the input reads as it did. -/
def dNSDecodesLikeReferenceUptoRow : OpenClaim := { program := "ythdggmigjddneaa", sum := "24b556f9e6c6aa72f6313081032b9a3934d9192d95fafa0aa20ef2511aa9eebe", func := "stagepost/stagepostlaw19.DNSDecodesLikeReference", spec := "dNSDecodesLikeReference", inPlace := ["internal/bytealg.IndexByteString", "internal/bytealg.IndexString", "internal/abi.NoEscape"], unfollowed := true, recurses := true, named := ["internal/bytealg.MaxLen"], apart := false, narrowed := true }
def DNSDecodesLikeReferenceUptoSaid : Prop := dNSDecodesLikeReferenceUptoRow.holds Try.pinned (OpenSpec.upto dNSDecodesLikeReferenceSpec)

/-- 'stagepostlaw19.DNSRoundTrip', WHERE WHAT IT READS IS OF BULK AT MOST 1048576: true; the input reads as it did. -/
def dNSRoundTripUptoRow : OpenClaim := { program := "ythdggmigjddneaa", sum := "24b556f9e6c6aa72f6313081032b9a3934d9192d95fafa0aa20ef2511aa9eebe", func := "stagepost/stagepostlaw19.DNSRoundTrip", spec := "dNSRoundTrip", inPlace := ["internal/bytealg.IndexByteString", "internal/bytealg.IndexString", "internal/abi.NoEscape"], unfollowed := true, recurses := true, named := ["internal/bytealg.MaxLen"], apart := false, narrowed := true }
def DNSRoundTripUptoSaid : Prop := dNSRoundTripUptoRow.holds Try.pinned (OpenSpec.upto dNSRoundTripSpec)

/-- 'stagepostlaw19.DNSNameLabels', WHERE WHAT IT READS IS OF BULK AT MOST 1048576: true; the input reads as it did. -/
def dNSNameLabelsUptoRow : OpenClaim := { program := "ythdggmigjddneaa", sum := "24b556f9e6c6aa72f6313081032b9a3934d9192d95fafa0aa20ef2511aa9eebe", func := "stagepost/stagepostlaw19.DNSNameLabels", spec := "dNSNameLabels", inPlace := ["internal/bytealg.IndexByteString", "internal/bytealg.IndexString", "internal/abi.NoEscape"], unfollowed := true, recurses := true, named := ["internal/bytealg.MaxLen"], apart := false, narrowed := true }
def DNSNameLabelsUptoSaid : Prop := dNSNameLabelsUptoRow.holds Try.pinned (OpenSpec.upto dNSNameLabelsSpec)

/-- 'stagepostlaw19.DNSQueryResponse', WHERE WHAT IT READS IS OF BULK AT MOST 1048576: true; the input reads as it did. -/
def dNSQueryResponseUptoRow : OpenClaim := { program := "ythdggmigjddneaa", sum := "24b556f9e6c6aa72f6313081032b9a3934d9192d95fafa0aa20ef2511aa9eebe", func := "stagepost/stagepostlaw19.DNSQueryResponse", spec := "dNSQueryResponse", inPlace := ["internal/bytealg.IndexByteString", "internal/bytealg.IndexString", "internal/abi.NoEscape"], unfollowed := true, recurses := true, named := ["internal/bytealg.MaxLen"], apart := false, narrowed := true }
def DNSQueryResponseUptoSaid : Prop := dNSQueryResponseUptoRow.holds Try.pinned (OpenSpec.upto dNSQueryResponseSpec)

end Rows
end Go.Proofs.Ythdggmigjddneaa
