/-
  NARROWER THAN 'FOR EVERY INPUT', by the rows' own cells (each row's printed sentence says how): DNSThroughFragments: laid · DNSThroughARP: laid.
  DERIVED. THE GIVEN ROWS OF THIS SEAT. 2 by the template 'for every input the law returns true; each argument reads behind the call as it read before'; 0 by the template 'total and deterministic' (their statements: YtmgjcjacoegocaaGreatDoorTotals.lean).
  GIVEN WITH THE SEED: the statements are not yours to turn. If you find one false, say at which input.
  Laid BY PROGRAM, IN A SANDBOX (cutbox-rows.mjs): the forced cells as the released guide's own fill.sh prints them over the translation dc6882dde3cc15c8… (all of the seat's roots in one cut). By AI agents, Wed Nov 11 2026. No macro, syntax, notation, axiom, sorry.
-/
import Derived.Test.YtmgjcjacoegocaaGreatDoorChecked
import GoSem.Claim
import GoSem.ClaimJoined
import GoSem.ClaimMapViews
import Derived.JoinedTies
import Derived.KernelRfl
namespace Go.Proofs.YtmgjcjacoegocaaGreatDoor
/- THE CELL 'sum', in the pinned program and in every row, IS THE sha256 OF THE DUMP (.gsa) THAT YtmgjcjacoegocaaGreatDoorProg.lean LOADS. Nothing in Lean hashes anything: it is a label: what it is worth is what the hold of that sum in a sandbox is worth. -/
noncomputable def Tryz.pinned : Pinned := { name := "ytmgjcjacoegocaagreatdoor", sum := "dc6882dde3cc15c833f13b13273d96779238919b658633816df82b699e86c1c0", checked := Tryz.checked }
namespace Rows
def none {H : Type} : Left H := { results := [], args := [] }

/- WHAT THE LISTED PACKAGE-LEVEL VARIABLES READ AS WHEN THE CALL BEGINS. Each datum BY PROGRAM (the guide's laid-datum.mjs) off the statement by which the dump's own 'gosem.cut.vars' lays the variable. In a bare row this is a premise. The card (YtmgjcjacoegocaaGreatDoorCards.lean) ties it to the program's text. -/
def laid_stagepost_link_errBroken {H : Type} : DataW H := .iface "*errors.errorString" (.ptr (.agg [.lit (.string [98, 114, 111, 107, 101, 110, 32, 102, 105, 101, 108, 100])]))

/-- 'stagepostlaw19.DNSThroughFragments': WHATEVER THE INPUT: true; the input reads as it did. -/
def dNSThroughFragmentsSpec : ChangeSpec := { name := "dNSThroughFragments", fn := fun _ => fun
  | [d1, d2, d3, d4] => { results := [.lit (.bool true)], args := [d1, d2, d3, d4] }
  | _ => none }
def dNSThroughFragmentsRow : OpenClaim := { program := "ytmgjcjacoegocaagreatdoor", sum := "dc6882dde3cc15c833f13b13273d96779238919b658633816df82b699e86c1c0", func := "stagepost/stagepostlaw19.DNSThroughFragments", spec := "dNSThroughFragments", inPlace := ["internal/bytealg.IndexByteString", "internal/bytealg.IndexString", "internal/abi.NoEscape", "internal/bytealg.MakeNoZero", "internal/reflectlite.TypeOf"], unfollowed := true, recurses := true, named := ["internal/bytealg.MaxLen", "stagepost/link.errBroken"], plainKeys := false, apart := false, laid := [("stagepost/link.errBroken", laid_stagepost_link_errBroken)] }
def DNSThroughFragmentsSaid : Prop := dNSThroughFragmentsRow.holds Tryz.pinned (OpenSpec.ofChange dNSThroughFragmentsSpec)

/-- ITS FALSE NEIGHBOUR: 'it returns false'. Refute it at one input. -/
def dNSThroughFragmentsWrong : ChangeSpec := { name := "dNSThroughFragments", fn := fun _ => fun
  | [d1, d2, d3, d4] => { results := [.lit (.bool false)], args := [d1, d2, d3, d4] }
  | _ => none }
def DNSThroughFragmentsWrongFalsely : Prop := dNSThroughFragmentsRow.holds Tryz.pinned (OpenSpec.ofChange dNSThroughFragmentsWrong)

/-- 'stagepostlaw19.DNSThroughARP': WHATEVER THE INPUT: true; the input reads as it did. -/
def dNSThroughARPSpec : ChangeSpec := { name := "dNSThroughARP", fn := fun _ => fun
  | [d1, d2, d3] => { results := [.lit (.bool true)], args := [d1, d2, d3] }
  | _ => none }
def dNSThroughARPRow : OpenClaim := { program := "ytmgjcjacoegocaagreatdoor", sum := "dc6882dde3cc15c833f13b13273d96779238919b658633816df82b699e86c1c0", func := "stagepost/stagepostlaw19.DNSThroughARP", spec := "dNSThroughARP", inPlace := ["internal/bytealg.IndexByteString", "internal/bytealg.IndexString", "internal/abi.NoEscape", "internal/bytealg.MakeNoZero", "internal/reflectlite.TypeOf"], unfollowed := true, recurses := true, named := ["internal/bytealg.MaxLen", "stagepost/link.errBroken"], plainKeys := false, apart := false, laid := [("stagepost/link.errBroken", laid_stagepost_link_errBroken)] }
def DNSThroughARPSaid : Prop := dNSThroughARPRow.holds Tryz.pinned (OpenSpec.ofChange dNSThroughARPSpec)

/-- ITS FALSE NEIGHBOUR: 'it returns false'. Refute it at one input. -/
def dNSThroughARPWrong : ChangeSpec := { name := "dNSThroughARP", fn := fun _ => fun
  | [d1, d2, d3] => { results := [.lit (.bool false)], args := [d1, d2, d3] }
  | _ => none }
def DNSThroughARPWrongFalsely : Prop := dNSThroughARPRow.holds Tryz.pinned (OpenSpec.ofChange dNSThroughARPWrong)

/- THE SECOND FORM. 'bulk': how many values and letters a reading holds, each counted each time it is reached (what is shared counts as often as it is met; a slice's spare places count too). A statement '..UptoSaid' is the law's where the arguments, and the package variables that the reading takes, are together of bulk at most 1048576: NARROWER than '..Said'. Prove '..Said' where nothing that the law and all that it calls make is longer than what came in: it says more and counts as full. Else prove '..UptoSaid'. A law counts once. -/
mutual
def uptoBulk {H : Type} : DataW H → Nat
  | .lit (.string bytes) => bytes.length + 1
  | .lit _ => 1
  | .nil => 1
  | .ptr d => uptoBulk d + 1
  | .slice elems spare => uptoBulkAll elems + uptoBulkAll spare + 1
  | .agg parts => uptoBulkAll parts + 1
  | .iface _ d => uptoBulk d + 1
  | .map entries => uptoBulkEntries entries + 1
  | .held _ => 1
def uptoBulkAll {H : Type} : List (DataW H) → Nat
  | [] => 0
  | d :: r => uptoBulk d + uptoBulkAll r
def uptoBulkEntries {H : Type} : List (Lit × DataW H) → Nat
  | [] => 0
  | x :: r => uptoBulkEntry x + uptoBulkEntries r
def uptoBulkEntry {H : Type} : Lit × DataW H → Nat
  | (.string bytes, d) => bytes.length + uptoBulk d + 1
  | (_, d) => uptoBulk d + 1
 end
def uptoSmall : (H : Type) → List (DataW H) → Bool := fun _ ds => decide (uptoBulkAll ds ≤ 1048576)
def OpenSpec.upto (s : _root_.Go.ChangeSpec) : _root_.Go.OpenSpec := { _root_.Go.OpenSpec.ofChange s with cond := some uptoSmall }

/-- 'stagepostlaw19.DNSThroughFragments', WHERE WHAT IT READS IS OF BULK AT MOST 1048576: true; the input reads as it did. -/
def dNSThroughFragmentsUptoRow : OpenClaim := { program := "ytmgjcjacoegocaagreatdoor", sum := "dc6882dde3cc15c833f13b13273d96779238919b658633816df82b699e86c1c0", func := "stagepost/stagepostlaw19.DNSThroughFragments", spec := "dNSThroughFragments", inPlace := ["internal/bytealg.IndexByteString", "internal/bytealg.IndexString", "internal/abi.NoEscape", "internal/bytealg.MakeNoZero", "internal/reflectlite.TypeOf"], unfollowed := true, recurses := true, named := ["internal/bytealg.MaxLen", "stagepost/link.errBroken"], plainKeys := false, apart := false, laid := [("stagepost/link.errBroken", laid_stagepost_link_errBroken)], narrowed := true }
def DNSThroughFragmentsUptoSaid : Prop := dNSThroughFragmentsUptoRow.holds Tryz.pinned (OpenSpec.upto dNSThroughFragmentsSpec)

/-- 'stagepostlaw19.DNSThroughARP', WHERE WHAT IT READS IS OF BULK AT MOST 1048576: true; the input reads as it did. -/
def dNSThroughARPUptoRow : OpenClaim := { program := "ytmgjcjacoegocaagreatdoor", sum := "dc6882dde3cc15c833f13b13273d96779238919b658633816df82b699e86c1c0", func := "stagepost/stagepostlaw19.DNSThroughARP", spec := "dNSThroughARP", inPlace := ["internal/bytealg.IndexByteString", "internal/bytealg.IndexString", "internal/abi.NoEscape", "internal/bytealg.MakeNoZero", "internal/reflectlite.TypeOf"], unfollowed := true, recurses := true, named := ["internal/bytealg.MaxLen", "stagepost/link.errBroken"], plainKeys := false, apart := false, laid := [("stagepost/link.errBroken", laid_stagepost_link_errBroken)], narrowed := true }
def DNSThroughARPUptoSaid : Prop := dNSThroughARPUptoRow.holds Tryz.pinned (OpenSpec.upto dNSThroughARPSpec)

end Rows
end Go.Proofs.YtmgjcjacoegocaaGreatDoor
