/-
  wire.Get at a width that is a letter.
-/
import Derived.Test.YtmgjcjacoegocaaDoorBase2
namespace Go.Proofs.YtmgjcjacoegocaaDoor.Wire
open Go.RowKit

theorem get_okI (s : ByteArray) (a k : Int) (w : World) (h1 : 1 ≤ k) (h4 : k ≤ 4) (h0 : 0 ≤ a) (ha : a + k ≤ s.size) (hm : s.size ≤ 9223372036854775807) :
    Calls Tryd.prog 52 #[.string s, .int .i64 a, .int .i64 k] w fun e w' => e = .returned (.tuple #[.int .i64 (num (bytesAt s a.toNat k.toNat)), .int .i64 0]) ∧ Below w.heap.size w w' := by
  have hb : k = 1 ∨ k = 2 ∨ k = 3 ∨ k = 4 := by omega
  rcases hb with rfl | rfl | rfl | rfl
  · exact getv1 s a w h0 ha hm
  · exact getv2 s a w h0 ha hm
  · exact getv3 s a w h0 ha hm
  · exact getv4 s a w h0 ha hm
theorem get_noI (s : ByteArray) (a k : Int) (w : World) (hm : s.size ≤ 9223372036854775807) (h : ¬ (1 ≤ k ∧ k ≤ 4 ∧ 0 ≤ a ∧ a + k ≤ s.size)) :
    Calls Tryd.prog 52 #[.string s, .int .i64 a, .int .i64 k] w fun e w' => e = .returned (.tuple #[.int .i64 0, .int .i64 10]) ∧ Below w.heap.size w w' :=
  (get_no s a k w hm h).mono fun _ _ ⟨he, hw⟩ => ⟨he, hw ▸ Below.refl _ _⟩
end Go.Proofs.YtmgjcjacoegocaaDoor.Wire
