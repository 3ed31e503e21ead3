/-
  A struct stored into its block cell by cell: what the block holds then, and what stays. No program in sight.
-/
import Derived.Test.YtmgjcjacoegocaaDoorBase1
namespace Go.Proofs.YtmgjcjacoegocaaDoor.Wire
set_option maxRecDepth 100000
open Go.RowKit

/-- cells stored one behind the other -/
def stN (W : World) (B : Nat) : Nat → List Value → World
  | _, [] => W
  | k, v :: vs => stN (W.setCell ⟨B, k, none⟩ v) B (k + 1) vs
theorem stN_block {B : Nat} {T : TypeId} : ∀ (vs : List Value) (W : World) (k : Nat) (arr : Array Value), W.heap[B]? = some (.cells arr T (0, 0)) → k + vs.length ≤ arr.size →
    ∃ arr' : Array Value, (stN W B k vs).heap[B]? = some (.cells arr' T (0, 0)) ∧ arr'.size = arr.size ∧ (∀ i, i < k → arr'[i]? = arr[i]?) ∧ (∀ i v, vs[i]? = some v → arr'[k + i]? = some v)
  | [], W, k, arr, h, _ => ⟨arr, h, rfl, fun _ _ => rfl, fun i v hv => by simp at hv⟩
  | v :: vs, W, k, arr, h, hk => by
    simp only [List.length_cons] at hk
    obtain ⟨arr', h1, h2, h3, h4⟩ := stN_block vs (W.setCell ⟨B, k, none⟩ v) (k + 1) (arr.setIfInBounds k v) (block_setCell h) (by simp; omega)
    refine ⟨arr', h1, by simpa using h2, fun i hi => ?_, fun i u hu => ?_⟩
    · rw [h3 i (by omega), Array.getElem?_setIfInBounds_ne (by omega)]
    · cases i with
      | zero =>
        have e : v = u := by simpa using hu
        subst e
        rw [h3 (k + 0) (by omega)]
        simp only [Nat.add_zero]
        exact Array.getElem?_setIfInBounds_self_of_lt (by omega)
      | succ i =>
        have := h4 i u (by simpa using hu)
        rw [← this]; congr 1; omega
theorem stN_all {B : Nat} {T : TypeId} (vs : List Value) {W : World} {arr : Array Value} (h : W.heap[B]? = some (.cells arr T (0, 0))) (hn : vs.length = arr.size) : (stN W B 0 vs).heap[B]? = some (.cells vs.toArray T (0, 0)) := by
  obtain ⟨arr', h1, h2, -, h4⟩ := stN_block vs W 0 arr h (by omega)
  have e : arr' = vs.toArray := arr_ext (n := vs.length) (by omega) rfl (fun k hk => ?_)
  · rw [h1, e]
  have := h4 k vs[k] (List.getElem?_eq_getElem hk)
  rw [Nat.zero_add] at this
  rw [this, List.getElem?_eq_getElem hk]
theorem stN_other {B b : Nat} {o : Obj} (hne : B ≠ b) : ∀ (vs : List Value) (W : World) (k : Nat) (_ : W.heap[b]? = some o), (stN W B k vs).heap[b]? = some o
  | [], _, _, h => h
  | v :: vs, _, k, h => stN_other hne vs _ (k + 1) (block_set_other (a := ⟨B, k, none⟩) (u := v) h hne)
theorem stN_below {B base : Nat} {W0 : World} (hB : base ≤ B) : ∀ (vs : List Value) (W : World) (k : Nat) (_ : Below base W0 W), Below base W0 (stN W B k vs)
  | [], _, _, h => h
  | v :: vs, _, k, h => stN_below hB vs _ (k + 1) (Below.setCell h hB v)
end Go.Proofs.YtmgjcjacoegocaaDoor.Wire
