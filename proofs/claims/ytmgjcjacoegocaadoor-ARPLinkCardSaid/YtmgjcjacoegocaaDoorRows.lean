/-
  NARROWER THAN 'FOR EVERY INPUT', by the rows' own cells (each row's printed sentence says how): SegmentThroughFragments: laid · ARPLink: laid.
  DERIVED. THE GIVEN ROWS OF THIS SEAT. 2 by the template 'for every input the law returns true; each argument reads behind the call as it read before'; 0 by the template 'total and deterministic' (their statements: YtmgjcjacoegocaaDoorTotals.lean).
  GIVEN WITH THE SEED: the statements are not yours to turn. If you find one false, say at which input.
  Laid BY PROGRAM, IN A SANDBOX (cutbox-rows.mjs): the forced cells as the released guide's own fill.sh prints them over the translation 03c6ee5ba3d03219… (all of the seat's roots in one cut). By AI agents, Wed Nov 11 2026. No macro, syntax, notation, axiom, sorry.
-/
import Derived.Test.YtmgjcjacoegocaaDoorChecked
import GoSem.Claim
import GoSem.ClaimJoined
import GoSem.ClaimMapViews
import Derived.JoinedTies
import Derived.KernelRfl
namespace Go.Proofs.YtmgjcjacoegocaaDoor
/- THE CELL 'sum', in the pinned program and in every row, IS THE sha256 OF THE DUMP (.gsa) THAT YtmgjcjacoegocaaDoorProg.lean LOADS. Nothing in Lean hashes anything: it is a label: what it is worth is what the hold of that sum in a sandbox is worth. -/
noncomputable def Tryd.pinned : Pinned := { name := "ytmgjcjacoegocaadoor", sum := "03c6ee5ba3d03219f6f31360b9b32d7cb47405ee9b44b19e702b5b368412aa10", checked := Tryd.checked }
namespace Rows
def none {H : Type} : Left H := { results := [], args := [] }

/- WHAT THE LISTED PACKAGE-LEVEL VARIABLES READ AS WHEN THE CALL BEGINS. Each datum BY PROGRAM (the guide's laid-datum.mjs) off the statement by which the dump's own 'gosem.cut.vars' lays the variable. In a bare row this is a premise. The card (YtmgjcjacoegocaaDoorCards.lean) ties it to the program's text. -/
def laid_stagepost_link_errBroken {H : Type} : DataW H := .iface "*errors.errorString" (.ptr (.agg [.lit (.string [98, 114, 111, 107, 101, 110, 32, 102, 105, 101, 108, 100])]))

/-- 'stagepostlaw11.SegmentThroughFragments': WHATEVER THE INPUT: true; the input reads as it did. -/
def segmentThroughFragmentsSpec : ChangeSpec := { name := "segmentThroughFragments", fn := fun _ => fun
  | [d1, d2, d3, d4, d5, d6, d7] => { results := [.lit (.bool true)], args := [d1, d2, d3, d4, d5, d6, d7] }
  | _ => none }
def segmentThroughFragmentsRow : OpenClaim := { program := "ytmgjcjacoegocaadoor", sum := "03c6ee5ba3d03219f6f31360b9b32d7cb47405ee9b44b19e702b5b368412aa10", func := "stagepost/stagepostlaw11.SegmentThroughFragments", spec := "segmentThroughFragments", inPlace := ["internal/abi.NoEscape", "internal/reflectlite.TypeOf"], unfollowed := true, recurses := true, named := ["stagepost/link.errBroken"], plainKeys := false, apart := false, laid := [("stagepost/link.errBroken", laid_stagepost_link_errBroken)] }
def SegmentThroughFragmentsSaid : Prop := segmentThroughFragmentsRow.holds Tryd.pinned (OpenSpec.ofChange segmentThroughFragmentsSpec)

/-- ITS FALSE NEIGHBOUR: 'it returns false'. Refute it at one input. -/
def segmentThroughFragmentsWrong : ChangeSpec := { name := "segmentThroughFragments", fn := fun _ => fun
  | [d1, d2, d3, d4, d5, d6, d7] => { results := [.lit (.bool false)], args := [d1, d2, d3, d4, d5, d6, d7] }
  | _ => none }
def SegmentThroughFragmentsWrongFalsely : Prop := segmentThroughFragmentsRow.holds Tryd.pinned (OpenSpec.ofChange segmentThroughFragmentsWrong)

/-- 'stagepostlaw05.ARPLink': WHATEVER THE INPUT: true; the input reads as it did. -/
def aRPLinkSpec : ChangeSpec := { name := "aRPLink", fn := fun _ => fun
  | [d1, d2] => { results := [.lit (.bool true)], args := [d1, d2] }
  | _ => none }
def aRPLinkRow : OpenClaim := { program := "ytmgjcjacoegocaadoor", sum := "03c6ee5ba3d03219f6f31360b9b32d7cb47405ee9b44b19e702b5b368412aa10", func := "stagepost/stagepostlaw05.ARPLink", spec := "aRPLink", inPlace := ["internal/abi.NoEscape", "internal/reflectlite.TypeOf"], unfollowed := true, recurses := true, named := ["stagepost/link.errBroken"], plainKeys := false, apart := false, laid := [("stagepost/link.errBroken", laid_stagepost_link_errBroken)] }
def ARPLinkSaid : Prop := aRPLinkRow.holds Tryd.pinned (OpenSpec.ofChange aRPLinkSpec)

/-- ITS FALSE NEIGHBOUR: 'it returns false'. Refute it at one input. -/
def aRPLinkWrong : ChangeSpec := { name := "aRPLink", fn := fun _ => fun
  | [d1, d2] => { results := [.lit (.bool false)], args := [d1, d2] }
  | _ => none }
def ARPLinkWrongFalsely : Prop := aRPLinkRow.holds Tryd.pinned (OpenSpec.ofChange aRPLinkWrong)

/- THE SECOND FORM. 'bulk': how many values and letters a reading holds, each counted each time it is reached (what is shared counts as often as it is met; a slice's spare places count too). A statement '..UptoSaid' is the law's where the arguments, and the package variables that the reading takes, are together of bulk at most 1048576: NARROWER than '..Said'. Prove '..Said' where nothing that the law and all that it calls make is longer than what came in: it says more and counts as full. Else prove '..UptoSaid'. A law counts once. -/
mutual
def uptoBulk {H : Type} : DataW H → Nat
  | .lit (.string bytes) => bytes.length + 1
  | .lit _ => 1
  | .nil => 1
  | .ptr d => uptoBulk d + 1
  | .slice elems spare => uptoBulkAll elems + uptoBulkAll spare + 1
  | .agg parts => uptoBulkAll parts + 1
  | .iface _ d => uptoBulk d + 1
  | .map entries => uptoBulkEntries entries + 1
  | .held _ => 1
def uptoBulkAll {H : Type} : List (DataW H) → Nat
  | [] => 0
  | d :: r => uptoBulk d + uptoBulkAll r
def uptoBulkEntries {H : Type} : List (Lit × DataW H) → Nat
  | [] => 0
  | x :: r => uptoBulkEntry x + uptoBulkEntries r
def uptoBulkEntry {H : Type} : Lit × DataW H → Nat
  | (.string bytes, d) => bytes.length + uptoBulk d + 1
  | (_, d) => uptoBulk d + 1
 end
def uptoSmall : (H : Type) → List (DataW H) → Bool := fun _ ds => decide (uptoBulkAll ds ≤ 1048576)
def OpenSpec.upto (s : _root_.Go.ChangeSpec) : _root_.Go.OpenSpec := { _root_.Go.OpenSpec.ofChange s with cond := some uptoSmall }

/-- 'stagepostlaw11.SegmentThroughFragments', WHERE WHAT IT READS IS OF BULK AT MOST 1048576: true; the input reads as it did. -/
def segmentThroughFragmentsUptoRow : OpenClaim := { program := "ytmgjcjacoegocaadoor", sum := "03c6ee5ba3d03219f6f31360b9b32d7cb47405ee9b44b19e702b5b368412aa10", func := "stagepost/stagepostlaw11.SegmentThroughFragments", spec := "segmentThroughFragments", inPlace := ["internal/abi.NoEscape", "internal/reflectlite.TypeOf"], unfollowed := true, recurses := true, named := ["stagepost/link.errBroken"], plainKeys := false, apart := false, laid := [("stagepost/link.errBroken", laid_stagepost_link_errBroken)], narrowed := true }
def SegmentThroughFragmentsUptoSaid : Prop := segmentThroughFragmentsUptoRow.holds Tryd.pinned (OpenSpec.upto segmentThroughFragmentsSpec)

/-- 'stagepostlaw05.ARPLink', WHERE WHAT IT READS IS OF BULK AT MOST 1048576: true; the input reads as it did. -/
def aRPLinkUptoRow : OpenClaim := { program := "ytmgjcjacoegocaadoor", sum := "03c6ee5ba3d03219f6f31360b9b32d7cb47405ee9b44b19e702b5b368412aa10", func := "stagepost/stagepostlaw05.ARPLink", spec := "aRPLink", inPlace := ["internal/abi.NoEscape", "internal/reflectlite.TypeOf"], unfollowed := true, recurses := true, named := ["stagepost/link.errBroken"], plainKeys := false, apart := false, laid := [("stagepost/link.errBroken", laid_stagepost_link_errBroken)], narrowed := true }
def ARPLinkUptoSaid : Prop := aRPLinkUptoRow.holds Tryd.pinned (OpenSpec.upto aRPLinkSpec)

end Rows
end Go.Proofs.YtmgjcjacoegocaaDoor
