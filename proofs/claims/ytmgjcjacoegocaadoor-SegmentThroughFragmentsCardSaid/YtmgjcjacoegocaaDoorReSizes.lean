/-
  The contracts of New and of (*Table).Sizes.
-/
import Derived.Test.YtmgjcjacoegocaaDoorReM
import Derived.Maps.RangeRun
namespace Go.Proofs.YtmgjcjacoegocaaDoor.Re
set_option maxRecDepth 100000
open Go.RowKit Go.Proofs.YtmgjcjacoegocaaDoor.Wire
open Go.Proofs.YtmgjcjacoegocaaDoor.Ip (Pk)

def NewPostT (w : World) (x : Ending) (w' : World) : Prop := ∃ T m clk, x = .returned (.pointer (some ⟨T, 0, none⟩)) ∧ Tab w' T m #[] clk none 0 [] ∧ Below w.heap.size w w' ∧ w.heap.size ≤ T ∧ w.heap.size ≤ m
theorem new_tab (w : World) : Calls Tryd.prog 33 #[] w (NewPostT w) := by
  have hmm := @run_makeMap Tryd.prog
  go_enter Tryd.func33, Tryd.ntmps33
  go_wp2_with fail
  go_ret
  refine ⟨w.heap.size + 1, w.heap.size, _, by simp, ⟨alloc_new' _ _ _ (by simp), block_alloc (alloc_new _ _) _, ⟨rfl, rfl⟩, List.nodup_nil, ⟨fun x hx => by simp at hx, by simp⟩, .inl ⟨rfl, rfl, rfl, rfl⟩, fun e he => by simp at he, by omega, fun a q => (by cases q), fun e he => by simp at he, fun i j e f he => by simp at he⟩, below_alloc (below_alloc (Below.refl _ _)), by omega, Nat.le_refl _⟩

/-- the bytes of the datagrams that have not been seen -/
def sumU : List MapEntry → List En → Array Nat → Int
  | x :: l, e :: L, s => (if s.contains x.born then 0 else e.H.cnt) + sumU l L s
  | _, _, _ => 0
theorem sumU_push_other : ∀ (l : List MapEntry) (L : List En) (s : Array Nat) (b : Nat), b ∉ l.map (·.born) → sumU l L (s.push b) = sumU l L s
  | [], L, s, b, _ => by cases L <;> rfl
  | x :: l, [], s, b, _ => rfl
  | x :: l, e :: L, s, b, h => by
    simp only [List.map_cons, List.mem_cons, not_or] at h
    simp only [sumU, sumU_push_other l L s b h.2]
    congr 1
    have : (s.push b).contains x.born = s.contains x.born := by
      rw [Bool.eq_iff_iff]
      simp only [Array.contains_iff_mem, Array.mem_push]
      exact ⟨fun q => q.resolve_right (fun r => h.1 r.symm), .inl⟩
    rw [this]
theorem sumU_step : ∀ (l : List MapEntry) (L : List En) (s : Array Nat) (x : MapEntry), l.map (·.val) = L.map En.ptr → (l.map (·.born)).Nodup → x ∈ l → s.contains x.born = false →
    ∃ e ∈ L, x.val = e.ptr ∧ sumU l L s = e.H.cnt + sumU l L (s.push x.born)
  | [], _, _, _, _, _, hx, _ => by cases hx
  | y :: l, [], _, _, h, _, _, _ => by cases h
  | y :: l, e :: L, s, x, h, hn, hx, hs => by
    simp only [List.map_cons, List.cons.injEq, List.nodup_cons] at h hn
    rcases List.mem_cons.1 hx with rfl | hx
    · refine ⟨e, List.mem_cons_self .., h.1, ?_⟩
      simp only [sumU, hs, sumU_push_other l L s x.born hn.1]
      simp
    · obtain ⟨f, hf, h1, h2⟩ := sumU_step l L s x h.2 hn.2 hx hs
      refine ⟨f, List.mem_cons_of_mem _ hf, h1, ?_⟩
      have hne : x.born ≠ y.born := fun q => hn.1 (by rw [← q]; exact List.mem_map.2 ⟨x, hx, rfl⟩)
      have : (s.push x.born).contains y.born = s.contains y.born := by
        rw [Bool.eq_iff_iff]
        simp only [Array.contains_iff_mem, Array.mem_push]
        exact ⟨fun q => q.resolve_right (fun r => hne r.symm), .inl⟩
      simp only [sumU, this, h2]
      omega
theorem sumU_done : ∀ (l : List MapEntry) (L : List En) (s : Array Nat), (∀ x ∈ l, s.contains x.born = true) → sumU l L s = 0
  | [], L, s, _ => by cases L <;> rfl
  | x :: l, [], s, _ => rfl
  | x :: l, e :: L, s, h => by
    simp only [sumU, h x (List.mem_cons_self ..), if_true, Int.zero_add]
    exact sumU_done l L s (fun y hy => h y (List.mem_cons_of_mem _ hy))
def sumC (L : List En) : Int := (L.map fun e => e.H.cnt).foldr (· + ·) 0
theorem sumU_start : ∀ (l : List MapEntry) (L : List En), l.length = L.length → sumU l L #[] = sumC L
  | [], [], _ => rfl
  | [], _ :: _, h => by simp at h
  | _ :: _, [], h => by simp at h
  | x :: l, e :: L, h => by
    simp only [List.length_cons, Nat.add_right_cancel_iff] at h
    simp [sumU, sumC, sumU_start l L h]
theorem sumU_bound : ∀ (l : List MapEntry) (L : List En) (s : Array Nat), (∀ e ∈ L, 0 ≤ e.H.cnt ∧ e.H.cnt ≤ 4000) → 0 ≤ sumU l L s ∧ sumU l L s ≤ sumC L
  | [], [], s, _ => ⟨Int.le_refl _, Int.le_refl _⟩
  | [], e :: L, s, h => by
    have := sumU_bound [] L s (fun e he => h e (List.mem_cons_of_mem _ he))
    have h0 : sumU [] L s = 0 := by cases L <;> rfl
    have := h e (List.mem_cons_self ..)
    simp [sumU, sumC] at *; omega
  | _ :: _, [], s, _ => ⟨Int.le_refl _, Int.le_refl _⟩
  | x :: l, e :: L, s, h => by
    have := sumU_bound l L s (fun e he => h e (List.mem_cons_of_mem _ he))
    have := h e (List.mem_cons_self ..)
    simp only [sumU, sumC, List.map_cons, List.foldr_cons] at *
    split <;> omega
theorem sumC_bound : ∀ (L : List En), (∀ e ∈ L, 0 ≤ e.H.cnt ∧ e.H.cnt ≤ 4000) → 0 ≤ sumC L ∧ sumC L ≤ 4000 * (L.length : Int)
  | [], _ => ⟨Int.le_refl _, Int.le_refl _⟩
  | e :: L, h => by
    have := sumC_bound L (fun e he => h e (List.mem_cons_of_mem _ he))
    have := h e (List.mem_cons_self ..)
    simp only [sumC, List.map_cons, List.foldr_cons, List.length_cons] at *
    omega
def leftAt (es : Array MapEntry) (W : World) (r : Nat) : Nat := match W.heap[r]? with | some (.mapIter _ _ seen _) => (leftOf es seen).size | _ => 0
theorem leftAt_of {es : Array MapEntry} {W : World} {r : Nat} {a : Option Nat} {s : Nat} {seen : Array Nat} {c : Nat} (h : W.heap[r]? = some (.mapIter a s seen c)) : leftAt es W r = (leftOf es seen).size := by unfold leftAt; rw [h]
end Go.Proofs.YtmgjcjacoegocaaDoor.Re
