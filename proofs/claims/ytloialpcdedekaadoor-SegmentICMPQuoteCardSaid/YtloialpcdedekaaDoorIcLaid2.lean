/-
  What the laid errors give a walk: two pointers to two blocks; a world that meets the condition.
-/
import Derived.Test.YtloialpcdedekaaDoorIc8
import Derived.ProofKit
import Derived.LaidMore
import Derived.LaidLaws
import Derived.OpenShut
import Derived.Stop.Joined
namespace Go.Proofs.YtloialpcdedekaaDoor.Ic
set_option maxRecDepth 100000
open Go.ChangeShapes Go.WideShapes Go.RowKit

noncomputable def laid2 : List (String × DataW Unit) := [("stagepost/icmp.errShort", Rows.laid_stagepost_icmp_errShort), ("stagepost/icmp.errKind", Rows.laid_stagepost_icmp_errKind)]
theorem door_met (os : Os) (args : Array Value) : laidMetH Tryd.prog laid2 ((World.doorLaid Tryd.prog 400 os).forCall (fun _ _ => 0) ⟨#[], args, []⟩).memory :=
  laidMetH_of_parts3 (fuel := 8) (laidMet_of_run' 8 (by kernel_rfl) (by kernel_rfl)) (by kernel_rfl) (by kernel_rfl)
theorem gShort : Tryd.prog.globalNamed "stagepost/icmp.errShort" = some 0 := by kernel_rfl
theorem gKind : Tryd.prog.globalNamed "stagepost/icmp.errKind" = some 1 := by kernel_rfl
theorem tShort : (Tryd.prog.globals[0]?).map (·.type) = some 64 := by kernel_rfl
theorem tKind : (Tryd.prog.globals[1]?).map (·.type) = some 64 := by kernel_rfl
theorem cellsES : Tryd.prog.cellsOf 160 = 1 := by kernel_rfl
theorem cellsS : Tryd.prog.cellsOf 9 = 1 := by kernel_rfl
theorem star : "*" ++ "errors.errorString" = "*errors.errorString" := by decide
theorem rowES (u : TypeId) (h : Tryd.prog.typeName? 3 u = some "*errors.errorString") : u = 136 :=
  typeName_ptr_named (nm := "errors.errorString") (by rw [star]; kernel_rfl) (by kernel_rfl) (by decide) u (by rw [star]; exact h)
theorem of_laid {W : World} (h : laidMetH Tryd.prog laid2 W) : ∃ a0 a1, GlE W a0 a1 := by
  rw [MakeChecks.laidMetH_plain _ _ _ (by kernel_rfl)] at h
  obtain ⟨ps, ⟨g0, t0, cs0, f0, p0, q0, hg0, ht0, hv0, hd0, ⟨g1, t1, cs1, f1, p1, q1, hg1, ht1, hv1, hd1, hq1, e1⟩, e0⟩, hnd, hrows⟩ := h
  obtain rfl := Option.some.inj (gShort.symm.trans hg0)
  obtain rfl := Option.some.inj (gKind.symm.trans hg1)
  obtain rfl := Option.some.inj (tShort.symm.trans ht0)
  obtain rfl := Option.some.inj (tKind.symm.trans ht1)
  have hq1' : q1 = [] := hq1
  subst hq1'
  subst e1
  subst e0
  obtain ⟨l0⟩ := cs0
  obtain ⟨l1⟩ := cs1
  have ok0 : ∀ u v, l0 = [.iface u v] → Value.okWide Tryd.prog W .any 0 u v := fun u v e => by
    subst e
    exact (hrows 0 0 (by simp [MemPlace.row])).2 u v (by simpa using World.var?_cell hg0 hv0 0)
  have ok1 : ∀ u v, l1 = [.iface u v] → Value.okWide Tryd.prog W .any 0 u v := fun u v e => by
    subst e
    exact (hrows 1 0 (by simp [MemPlace.row])).2 u v (by simpa using World.var?_cell hg1 hv1 0)
  obtain ⟨a0, s0, rfl, hc0, hs0, hz0, rfl⟩ := errorString_of_trod Tryd.underlying64 rowES Tryd.underlying136 Tryd.underlying160 rfl rfl Tryd.underlying9 cellsES cellsS hd0 ok0
  obtain ⟨a1, s1, rfl, hc1, hs1, hz1, rfl⟩ := errorString_of_trod Tryd.underlying64 rowES Tryd.underlying136 Tryd.underlying160 rfl rfl Tryd.underlying9 cellsES cellsS hd1 ok1
  obtain ⟨c0, t0, hb0⟩ := (hrows a0.block a0.off (by simp [MemPlace.row])).1
  obtain ⟨c1, t1, hb1⟩ := (hrows a1.block a1.off (by simp [MemPlace.row])).1
  have k0 : W.cell? ⟨0, 0, none⟩ = some (errV a0) := by unfold errV; simpa using World.var?_cell hg0 hv0 0
  have k1 : W.cell? ⟨1, 0, none⟩ = some (errV a1) := by unfold errV; simpa using World.var?_cell hg1 hv1 0
  refine ⟨a0, a1, ⟨k0, k1⟩, ?_, ⟨c0, t0, hb0⟩, ⟨c1, t1, hb1⟩, ?_⟩
  · rintro rfl
    simp [MemPlace.row] at hnd
  · have l0 : ∀ g v, W.cell? ⟨g, 0, none⟩ = some v → g < W.heap.size := fun g v hv => by
      rcases Nat.lt_or_ge g W.heap.size with q | q
      · exact q
      · simp [World.cell?, Array.getElem?_eq_none q] at hv
    have := l0 _ _ k0
    have := l0 _ _ k1
    omega
end Go.Proofs.YtloialpcdedekaaDoor.Ic
