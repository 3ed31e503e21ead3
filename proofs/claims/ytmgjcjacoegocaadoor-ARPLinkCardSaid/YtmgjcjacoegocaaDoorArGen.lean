/-
  The helpers of the laws of chapter 05: pick, address, Message, short.
-/
import Derived.Test.YtmgjcjacoegocaaDoorAr0
import Derived.RegionTactic
import Derived.WalkMore
namespace Go.Proofs.YtmgjcjacoegocaaDoor.Ar
set_option maxRecDepth 100000
open Go.RowKit Go.Proofs.YtmgjcjacoegocaaDoor.Wire

def pick (c n : Int) : Int := if c < 0 then (-(c + 1)) % n else c % n
theorem pick_lt (c n : Int) (h : 0 < n) : 0 ≤ pick c n ∧ pick c n < n := by
  unfold pick; split
  · exact ⟨Int.emod_nonneg _ (by omega), Int.emod_lt_of_pos _ h⟩
  · exact ⟨Int.emod_nonneg _ (by omega), Int.emod_lt_of_pos _ h⟩
set_option maxHeartbeats 400000 in
theorem pick_any (c n : Int) (w : World) (hc : In64 c) (h : 1 ≤ n) (h' : n ≤ 4294967295) :
    Calls Tryd.prog 15 #[.int .i64 c, .int .i64 n] w fun e w' => e = .returned (.int .i64 (pick c n)) ∧ w = w' := by
  have hne : (n == 0) = false := by simp; omega
  unfold In64 at hc
  obtain ⟨h1, h2⟩ := hc
  by_cases hc : c < 0
  · go_enter Tryd.func15, Tryd.ntmps15
    go_wp2
    go_ret
    exact ⟨ret_int (by unfold pick; rw [if_pos hc, ← Int.neg_tmod, Int.tmod_eq_emod_of_nonneg (by omega)]), rfl⟩
  · go_enter Tryd.func15, Tryd.ntmps15
    go_wp2
    go_ret
    exact ⟨ret_int (by unfold pick; rw [if_neg (by omega)]), rfl⟩
end Go.Proofs.YtmgjcjacoegocaaDoor.Ar
