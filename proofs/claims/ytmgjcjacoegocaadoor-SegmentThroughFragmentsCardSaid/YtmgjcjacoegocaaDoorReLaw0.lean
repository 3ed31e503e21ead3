/-
  The table with the blocks that it owns: New, Sizes; the law's helper put.
-/
import Derived.Test.YtmgjcjacoegocaaDoorReTop
import Derived.Test.YtmgjcjacoegocaaDoorReSizes
namespace Go.Proofs.YtmgjcjacoegocaaDoor.Re
set_option maxRecDepth 100000
open Go.RowKit Go.Proofs.YtmgjcjacoegocaaDoor.Wire
open Go.Proofs.YtmgjcjacoegocaaDoor.Ip (Pk vlenB)

def sumA (A : List (Ky × Hf)) : Int := (A.map fun x => x.2.cnt).foldr (· + ·) 0
theorem sumC_abs (L : List En) : sumC L = sumA (abs L) := by unfold sumC sumA abs; rw [List.map_map]; rfl
def NewTT (w : World) (x : Ending) (w' : World) : Prop := ∃ T S, x = .returned (.pointer (some ⟨T, 0, none⟩)) ∧ TT w' T [] S ∧ Below w.heap.size w w' ∧ ∀ q, S q → w.heap.size ≤ q
theorem new_tt (w : World) : Calls Tryd.prog 33 #[] w (NewTT w) := by
  refine (new_tab w).mono ?_
  rintro x w' ⟨T, m, clk, rfl, h1, h2, h3, h4⟩
  refine ⟨T, fun q => TOwn T m none [] q, rfl, ⟨⟨m, #[], clk, none, 0, [], h1, fun e he => by simp at he, rfl, fun q hq => hq⟩, fun q hq => h1.lt hq, fun x hx => by simp at hx⟩, h2, ?_⟩
  rintro q (r | r | ⟨a, r, -⟩ | ⟨e, r, -⟩)
  · omega
  · omega
  · cases r
  · simp at r
/-- what put says -/
def putS (r : List (Ky × Hf) × Pk × Bool × Int) : ByteArray := if r.2.2.2 ≠ 0 then ⟨#[33]⟩ else if r.2.2.1 = true then r.2.1.s else ⟨#[45]⟩
def PutSW (S : Nat → Prop) (w : World) (T : Nat) (r : List (Ky × Hf) × Pk × Bool × Int) (x : Ending) (w' : World) : Prop :=
  x = .returned (.string (putS r)) ∧ ∃ S' : Nat → Prop, TT w' T r.1 S' ∧ Chg S w w' ∧ ∀ q, S' q → S q ∨ w.heap.size ≤ q
end Go.Proofs.YtmgjcjacoegocaaDoor.Re
