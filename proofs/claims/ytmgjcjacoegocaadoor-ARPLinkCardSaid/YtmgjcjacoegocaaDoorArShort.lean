/-
  The helper short of the laws of chapter 05.
-/
import Derived.Test.YtmgjcjacoegocaaDoorArMsg
namespace Go.Proofs.YtmgjcjacoegocaaDoor.Ar
set_option maxRecDepth 100000
open Go.RowKit Go.Proofs.YtmgjcjacoegocaaDoor.Wire
set_option maxHeartbeats 4000000 in
theorem short_any (s : ByteArray) (w : World) (hs : s.size ≤ 9223372036854775807) : Calls Tryd.prog 24 #[.string s] w fun e w' => e = .returned (.string (shortS s)) ∧ w = w' := by
  unfold shortS
  rcases Nat.lt_or_ge 20 s.size with h | h
  · have e2 : min s.size 20 = 20 := by omega
    have h1 : (20 : Int) < (s.size : Int) := by omega
    rw [e2]
    go_enter Tryd.func24, Tryd.ntmps24
    go_wp2_with fail
    all_goals first | (exfalso; omega) | skip
    go_ret
    refine ⟨?_, rfl⟩
    simp
  · have e2 : min s.size 20 = s.size := by omega
    have h1 : (s.size : Int) ≤ 20 := by omega
    rw [e2]
    go_enter Tryd.func24, Tryd.ntmps24
    go_wp2_with fail
    all_goals first | (exfalso; omega) | skip
    go_ret
    refine ⟨?_, rfl⟩
    simp
end Go.Proofs.YtmgjcjacoegocaaDoor.Ar
