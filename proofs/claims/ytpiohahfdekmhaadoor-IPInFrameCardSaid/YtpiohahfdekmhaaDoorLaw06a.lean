/-
  Contracts of the helpers of the laws of chapter 6: pick, PacketFrom.
-/
import Derived.Test.YtpiohahfdekmhaaDoorIpPlain
import Derived.Test.YtpiohahfdekmhaaDoorPayload
import Derived.Deep.RegionWith
import Derived.Deep.RegionHeld3
import Derived.Deep.DeepCutAuto
import Derived.StillTailTactics
import Derived.Outline
namespace Go.Proofs.YtpiohahfdekmhaaDoor.Ip
set_option maxRecDepth 100000
open Go.RowKit Go.Proofs.YtpiohahfdekmhaaDoor.Wire Go.Proofs.YtpiohahfdekmhaaDoor.Gen

set_option maxHeartbeats 400000 in
theorem pick_any (c n : Int) (w : World) (h1 : -9223372036854775808 ≤ c) (h2 : c ≤ 9223372036854775807) (h : 1 ≤ n) (h' : n ≤ 4294967295) :
    Calls Tryd.prog 7 #[.int .i64 c, .int .i64 n] w fun e w' => e = .returned (.int .i64 (pick c n)) ∧ w = w' := by
  have hne : (n == 0) = false := by simp; omega
  by_cases hc : c < 0
  · go_enter Tryd.func7, Tryd.ntmps7
    go_wp2
    go_ret
    exact ⟨ret_int (by unfold pick; rw [if_pos hc, ← Int.neg_tmod, Int.tmod_eq_emod_of_nonneg (by omega)]), rfl⟩
  · go_enter Tryd.func7, Tryd.ntmps7
    go_wp2
    go_ret
    exact ⟨ret_int (by unfold pick; rw [if_neg (by omega)]), rfl⟩
theorem pick_s (c n : Int) (w : World) (h1 : -9223372036854775808 ≤ c) (h2 : c ≤ 9223372036854775807) (h : 1 ≤ n) (h' : n ≤ 4294967295) :
    Calls Tryd.prog 7 #[.int .i64 c, .int .i64 n] w fun e w' => e = .returned (.int .i64 (pick c n)) ∧ w' = w :=
  (pick_any c n w h1 h2 h h').mono fun _ _ ⟨a, b⟩ => ⟨a, b.symm⟩
abbrev In64 (x : Int) : Prop := -9223372036854775808 ≤ x ∧ x ≤ 9223372036854775807
theorem below_undrew {B : Nat} {a w : World} (h : Below B a.drew w) : Below B a w := ⟨h.os, h.tape, h.output, h.size, h.block⟩
end Go.Proofs.YtpiohahfdekmhaaDoor.Ip
