/-
  A region that draws its order, walked by hand: what is known of every world may be sharpened on the way. No program in sight.
-/
import Derived.Deep.RegionHeld3
namespace Go.Proofs.YtmgjcjacoegocaaDoor.Wire
set_option maxRecDepth 100000

theorem wpAnyH_sharpen {P : Program} {md : Region.Mode} {ops : Array Oper} {Q : Exit → Act → World → Prop} {S1 S0 : World → Prop} (hS : ∀ w, S1 w → S0 w) :
    ∀ (fuel : Nat) (listed : Array Bool) (a : Act) (w : World), wpAnyH P md ops Q S1 fuel listed a w → wpAnyH P md ops Q S0 fuel listed a w
  | 0, _, _, _, h => h
  | fuel + 1, _, _, _, h => ⟨h.1, fun i hi => wpOp_mono (fun a' w' h' => ⟨hS _ h'.1, wpAnyH_sharpen hS fuel _ a' w' h'.2⟩) (h.2 i hi)⟩
end Go.Proofs.YtmgjcjacoegocaaDoor.Wire
