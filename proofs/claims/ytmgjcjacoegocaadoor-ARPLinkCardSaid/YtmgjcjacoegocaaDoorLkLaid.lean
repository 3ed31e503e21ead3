/-
  What package link's laid error gives a walk: a pointer in a cell; a world that meets the condition.
-/
import Derived.Test.YtmgjcjacoegocaaDoorLkM
import Derived.ProofKit
import Derived.LaidMore
import Derived.LaidLaws
import Derived.OpenShut
import Derived.Stop.Joined
namespace Go.Proofs.YtmgjcjacoegocaaDoor.Lk
set_option maxRecDepth 100000
open Go.ChangeShapes Go.WideShapes Go.RowKit

noncomputable def laid1 : List (String × DataW Unit) := [("stagepost/link.errBroken", Rows.laid_stagepost_link_errBroken)]
theorem door_met (os : Os) (args : Array Value) : laidMetH Tryd.prog laid1 ((World.doorLaid Tryd.prog 400 os).forCall (fun _ _ => 0) ⟨#[], args, []⟩).memory :=
  laidMetH_of_parts3 (fuel := 8) (laidMet_of_run' 8 (by kernel_rfl) (by kernel_rfl)) (by kernel_rfl) (by kernel_rfl)
theorem gBroken : Tryd.prog.globalNamed "stagepost/link.errBroken" = some 0 := by kernel_rfl
theorem tBroken : (Tryd.prog.globals[0]?).map (·.type) = some 111 := by kernel_rfl
theorem cellsES : Tryd.prog.cellsOf 262 = 1 := by kernel_rfl
theorem cellsS : Tryd.prog.cellsOf 9 = 1 := by kernel_rfl
theorem star : "*" ++ "errors.errorString" = "*errors.errorString" := by decide
theorem rowES (u : TypeId) (h : Tryd.prog.typeName? 3 u = some "*errors.errorString") : u = 240 :=
  typeName_ptr_named (nm := "errors.errorString") (by rw [star]; kernel_rfl) (by kernel_rfl) (by decide) u (by rw [star]; exact h)
theorem of_laid {W : World} (h : laidMetH Tryd.prog laid1 W) : ∃ a0, Gl W a0 := by
  rw [MakeChecks.laidMetH_plain _ _ _ (by kernel_rfl)] at h
  obtain ⟨ps, ⟨g0, t0, cs0, f0, p0, q0, hg0, ht0, hv0, hd0, hq0, e0⟩, hnd, hrows⟩ := h
  obtain rfl := Option.some.inj (gBroken.symm.trans hg0)
  obtain rfl := Option.some.inj (tBroken.symm.trans ht0)
  have hq0' : q0 = [] := hq0
  subst hq0'
  subst e0
  obtain ⟨l0⟩ := cs0
  have ok0 : ∀ u v, l0 = [.iface u v] → Value.okWide Tryd.prog W .any 0 u v := fun u v e => by
    subst e
    exact (hrows 0 0 (by simp [MemPlace.row])).2 u v (by simpa using World.var?_cell hg0 hv0 0)
  obtain ⟨a0, s0, rfl, hc0, hs0, hz0, rfl⟩ := errorString_of_trod Tryd.underlying111 rowES Tryd.underlying240 Tryd.underlying262 rfl rfl Tryd.underlying9 cellsES cellsS hd0 ok0
  exact ⟨a0, by unfold Gl errV; simpa using World.var?_cell hg0 hv0 0⟩
end Go.Proofs.YtmgjcjacoegocaaDoor.Lk
