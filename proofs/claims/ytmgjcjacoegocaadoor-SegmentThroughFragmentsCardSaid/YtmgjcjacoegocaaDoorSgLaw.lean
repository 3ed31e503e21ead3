/-
  Contracts of the helpers of the laws of chapter 11: pick, cut.
-/
import Derived.Test.YtmgjcjacoegocaaDoorSgSame
import Derived.Test.YtmgjcjacoegocaaDoorSgPlain
namespace Go.Proofs.YtmgjcjacoegocaaDoor.Sg
set_option maxRecDepth 100000
open Go.RowKit Go.Proofs.YtmgjcjacoegocaaDoor.Wire

abbrev In64 (x : Int) : Prop := -9223372036854775808 ≤ x ∧ x ≤ 9223372036854775807
/-- pick -/
def pick (c n : Int) : Int := if c < 0 then (-(c + 1)) % n else c % n
theorem pick_lt (c n : Int) (h : 1 ≤ n) : 0 ≤ pick c n ∧ pick c n < n := by
  unfold pick
  split <;> exact ⟨Int.emod_nonneg _ (by omega), Int.emod_lt_of_pos _ (by omega)⟩
set_option maxHeartbeats 400000 in
theorem pick_any (c n : Int) (w : World) (h1 : -9223372036854775808 ≤ c) (h2 : c ≤ 9223372036854775807) (h : 1 ≤ n) (h' : n ≤ 4294967296) :
    Calls Tryd.prog 6 #[.int .i64 c, .int .i64 n] w fun e w' => e = .returned (.int .i64 (pick c n)) ∧ w = w' := by
  have hne : (n == 0) = false := by simp; omega
  by_cases hc : c < 0
  · go_enter Tryd.func6, Tryd.ntmps6
    go_wp2
    go_ret
    exact ⟨ret_int (by unfold pick; rw [if_pos hc, ← Int.neg_tmod, Int.tmod_eq_emod_of_nonneg (by omega)]), rfl⟩
  · go_enter Tryd.func6, Tryd.ntmps6
    go_wp2
    go_ret
    exact ⟨ret_int (by unfold pick; rw [if_neg (by omega)]), rfl⟩

/-- the slice at A of n elements holds the blocks l, wherever it lies -/
def BksA (W : World) (A : Option Addr) (n : Nat) (l : List (Int × Int)) : Prop := l.length = n ∧ (0 < n → ∃ a : Addr, A = some a ∧ ∀ j u, (spCells l)[j]? = some u → W.cell? (a.add j) = some u)
end Go.Proofs.YtmgjcjacoegocaaDoor.Sg
