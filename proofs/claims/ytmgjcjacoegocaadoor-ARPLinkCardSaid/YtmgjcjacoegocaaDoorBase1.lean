/-
  More small facts on memory: a block of known size whose cells may be written. No program in sight.
-/
import Derived.Test.YtmgjcjacoegocaaDoorBase0
import Derived.Laws.Rows
namespace Go.Proofs.YtmgjcjacoegocaaDoor.Wire
set_option maxRecDepth 100000
open Go.RowKit

theorem blk_lt {W : World} {B : Nat} {o : Obj} (h : W.heap[B]? = some o) : B < W.heap.size := (Array.getElem?_eq_some_iff.1 h).1
/-- a block of n cells of a type, none of them frozen -/
def Blk (W : World) (B n : Nat) (t : TypeId) : Prop := ∃ arr : Array Value, arr.size = n ∧ W.heap[B]? = some (.cells arr t (0, 0))
theorem blk_of {W : World} {B : Nat} {arr : Array Value} {t : TypeId} (h : W.heap[B]? = some (.cells arr t (0, 0))) : Blk W B arr.size t := ⟨arr, rfl, h⟩
theorem bblk {W w1 : World} (hb : Below W.heap.size W w1) {B n : Nat} {t : TypeId} (h : Blk W B n t) : Blk w1 B n t := by
  obtain ⟨arr, hs, h⟩ := h
  exact ⟨arr, hs, bblock hb h⟩
theorem blk_set {W : World} {B n : Nat} {t : TypeId} {a : Addr} {u : Value} (h : Blk W B n t) : Blk (W.setCell a u) B n t := by
  obtain ⟨arr, hs, h⟩ := h
  have : (W.setCell a u).heap[B]? = (W.heap.modify a.block fun | .cells c elem frozen => .cells (if a.spot.isSome then c else c.setIfInBounds a.off u) elem frozen | o => o)[B]? := rfl
  by_cases e : a.block = B
  · refine ⟨if a.spot.isSome then arr else arr.setIfInBounds a.off u, by split <;> simp [hs], ?_⟩
    rw [this, Array.getElem?_modify, if_pos e, h]; rfl
  · exact ⟨arr, hs, by rw [this, Array.getElem?_modify, if_neg e, h]⟩
theorem blk_alloc {W : World} {B n : Nat} {t : TypeId} (h : Blk W B n t) (o : Obj) : Blk (W.alloc o) B n t := by
  obtain ⟨arr, hs, h⟩ := h
  exact ⟨arr, hs, block_alloc h o⟩
theorem blk_drew {W : World} {B n : Nat} {t : TypeId} (h : Blk W B n t) : Blk W.drew B n t := h
theorem blk_frozen {W : World} {B n k : Nat} {t : TypeId} (h : Blk W B n t) : W.frozen? ⟨B, k, none⟩ = false := by
  obtain ⟨arr, hs, h⟩ := h
  simp [World.frozen?, h]
theorem blk_cell {W : World} {B n k : Nat} {t : TypeId} (h : Blk W B n t) (hk : k < n) : W.cell? ⟨B, k, none⟩ = some (valAt W ⟨B, k, none⟩) := by
  obtain ⟨arr, hs, h⟩ := h
  subst hs
  exact valAt_of (v := arr[k]) (by simp [World.cell?, h, hk])
theorem cell_set_eq {W : World} {a : Addr} {u x : Value} (h : (W.setCell a u).cell? a = some x) : (W.setCell a u).cell? a = some u := by
  refine World.cell?_setCell_same' W a u ?_
  cases hc : W.cell? a with
  | some v => rfl
  | none =>
    exfalso
    unfold World.cell? at h hc
    have : (W.setCell a u).heap[a.block]? = (W.heap.modify a.block fun | .cells c elem frozen => .cells (if a.spot.isSome then c else c.setIfInBounds a.off u) elem frozen | o => o)[a.block]? := rfl
    rw [this, Array.getElem?_modify, if_pos rfl] at h
    cases hb : W.heap[a.block]? with
    | none => rw [hb] at h; simp at h
    | some o =>
      rw [hb] at h hc
      cases o <;> simp_all
theorem block_set_other {W : World} {b : Nat} {o : Obj} {a : Addr} {u : Value} (h : W.heap[b]? = some o) (hne : a.block ≠ b) : (W.setCell a u).heap[b]? = some o :=
  (Below.heap_setCell W a u b (fun e => hne e.symm)).trans h
theorem arr_ext {arr : Array Value} {n : Nat} (hs : arr.size = n) {l : List Value} (hl : l.length = n) (h : ∀ k, k < n → arr[k]? = l[k]?) : arr = l.toArray := by
  apply Array.ext_getElem?
  intro k
  by_cases hk : k < n
  · rw [h k hk]; simp
  · rw [Array.getElem?_eq_none (by omega)]; simp; omega
theorem cell_arr {W : World} {B k : Nat} {arr : Array Value} {t : TypeId} {v : Value} (h : W.heap[B]? = some (.cells arr t (0, 0))) (hc : W.cell? ⟨B, k, none⟩ = some v) : arr[k]? = some v := by
  simpa [World.cell?, h] using hc
theorem blk_known1 {W : World} {B : Nat} {t : TypeId} {v0 : Value} (h : Blk W B 1 t) (h0 : W.cell? ⟨B, 0, none⟩ = some v0) : W.heap[B]? = some (.cells #[v0] t (0, 0)) := by
  obtain ⟨arr, hs, h⟩ := h
  rw [h, arr_ext (l := [v0]) hs rfl (fun k hk => by
    match k, hk with
    | 0, _ => exact cell_arr h h0)]
theorem blk_known2 {W : World} {B : Nat} {t : TypeId} {v0 v1 : Value} (h : Blk W B 2 t) (h0 : W.cell? ⟨B, 0, none⟩ = some v0) (h1 : W.cell? ⟨B, 1, none⟩ = some v1) : W.heap[B]? = some (.cells #[v0, v1] t (0, 0)) := by
  obtain ⟨arr, hs, h⟩ := h
  rw [h, arr_ext (l := [v0, v1]) hs rfl (fun k hk => by
    match k, hk with
    | 0, _ => exact cell_arr h h0
    | 1, _ => exact cell_arr h h1)]
theorem blk_known3 {W : World} {B : Nat} {t : TypeId} {v0 v1 v2 : Value} (h : Blk W B 3 t) (h0 : W.cell? ⟨B, 0, none⟩ = some v0) (h1 : W.cell? ⟨B, 1, none⟩ = some v1) (h2 : W.cell? ⟨B, 2, none⟩ = some v2) : W.heap[B]? = some (.cells #[v0, v1, v2] t (0, 0)) := by
  obtain ⟨arr, hs, h⟩ := h
  rw [h, arr_ext (l := [v0, v1, v2]) hs rfl (fun k hk => by
    match k, hk with
    | 0, _ => exact cell_arr h h0
    | 1, _ => exact cell_arr h h1
    | 2, _ => exact cell_arr h h2)]
theorem blk_known4 {W : World} {B : Nat} {t : TypeId} {v0 v1 v2 v3 : Value} (h : Blk W B 4 t) (h0 : W.cell? ⟨B, 0, none⟩ = some v0) (h1 : W.cell? ⟨B, 1, none⟩ = some v1) (h2 : W.cell? ⟨B, 2, none⟩ = some v2) (h3 : W.cell? ⟨B, 3, none⟩ = some v3) : W.heap[B]? = some (.cells #[v0, v1, v2, v3] t (0, 0)) := by
  obtain ⟨arr, hs, h⟩ := h
  rw [h, arr_ext (l := [v0, v1, v2, v3]) hs rfl (fun k hk => by
    match k, hk with
    | 0, _ => exact cell_arr h h0
    | 1, _ => exact cell_arr h h1
    | 2, _ => exact cell_arr h h2
    | 3, _ => exact cell_arr h h3)]
theorem blk_known5 {W : World} {B : Nat} {t : TypeId} {v0 v1 v2 v3 v4 : Value} (h : Blk W B 5 t) (h0 : W.cell? ⟨B, 0, none⟩ = some v0) (h1 : W.cell? ⟨B, 1, none⟩ = some v1) (h2 : W.cell? ⟨B, 2, none⟩ = some v2) (h3 : W.cell? ⟨B, 3, none⟩ = some v3) (h4 : W.cell? ⟨B, 4, none⟩ = some v4) : W.heap[B]? = some (.cells #[v0, v1, v2, v3, v4] t (0, 0)) := by
  obtain ⟨arr, hs, h⟩ := h
  rw [h, arr_ext (l := [v0, v1, v2, v3, v4]) hs rfl (fun k hk => by
    match k, hk with
    | 0, _ => exact cell_arr h h0
    | 1, _ => exact cell_arr h h1
    | 2, _ => exact cell_arr h h2
    | 3, _ => exact cell_arr h h3
    | 4, _ => exact cell_arr h h4)]
theorem blk_known6 {W : World} {B : Nat} {t : TypeId} {v0 v1 v2 v3 v4 v5 : Value} (h : Blk W B 6 t) (h0 : W.cell? ⟨B, 0, none⟩ = some v0) (h1 : W.cell? ⟨B, 1, none⟩ = some v1) (h2 : W.cell? ⟨B, 2, none⟩ = some v2) (h3 : W.cell? ⟨B, 3, none⟩ = some v3) (h4 : W.cell? ⟨B, 4, none⟩ = some v4) (h5 : W.cell? ⟨B, 5, none⟩ = some v5) : W.heap[B]? = some (.cells #[v0, v1, v2, v3, v4, v5] t (0, 0)) := by
  obtain ⟨arr, hs, h⟩ := h
  rw [h, arr_ext (l := [v0, v1, v2, v3, v4, v5]) hs rfl (fun k hk => by
    match k, hk with
    | 0, _ => exact cell_arr h h0
    | 1, _ => exact cell_arr h h1
    | 2, _ => exact cell_arr h h2
    | 3, _ => exact cell_arr h h3
    | 4, _ => exact cell_arr h h4
    | 5, _ => exact cell_arr h h5)]
theorem blk_known7 {W : World} {B : Nat} {t : TypeId} {v0 v1 v2 v3 v4 v5 v6 : Value} (h : Blk W B 7 t) (h0 : W.cell? ⟨B, 0, none⟩ = some v0) (h1 : W.cell? ⟨B, 1, none⟩ = some v1) (h2 : W.cell? ⟨B, 2, none⟩ = some v2) (h3 : W.cell? ⟨B, 3, none⟩ = some v3) (h4 : W.cell? ⟨B, 4, none⟩ = some v4) (h5 : W.cell? ⟨B, 5, none⟩ = some v5) (h6 : W.cell? ⟨B, 6, none⟩ = some v6) : W.heap[B]? = some (.cells #[v0, v1, v2, v3, v4, v5, v6] t (0, 0)) := by
  obtain ⟨arr, hs, h⟩ := h
  rw [h, arr_ext (l := [v0, v1, v2, v3, v4, v5, v6]) hs rfl (fun k hk => by
    match k, hk with
    | 0, _ => exact cell_arr h h0
    | 1, _ => exact cell_arr h h1
    | 2, _ => exact cell_arr h h2
    | 3, _ => exact cell_arr h h3
    | 4, _ => exact cell_arr h h4
    | 5, _ => exact cell_arr h h5
    | 6, _ => exact cell_arr h h6)]
theorem blk_known8 {W : World} {B : Nat} {t : TypeId} {v0 v1 v2 v3 v4 v5 v6 v7 : Value} (h : Blk W B 8 t) (h0 : W.cell? ⟨B, 0, none⟩ = some v0) (h1 : W.cell? ⟨B, 1, none⟩ = some v1) (h2 : W.cell? ⟨B, 2, none⟩ = some v2) (h3 : W.cell? ⟨B, 3, none⟩ = some v3) (h4 : W.cell? ⟨B, 4, none⟩ = some v4) (h5 : W.cell? ⟨B, 5, none⟩ = some v5) (h6 : W.cell? ⟨B, 6, none⟩ = some v6) (h7 : W.cell? ⟨B, 7, none⟩ = some v7) : W.heap[B]? = some (.cells #[v0, v1, v2, v3, v4, v5, v6, v7] t (0, 0)) := by
  obtain ⟨arr, hs, h⟩ := h
  rw [h, arr_ext (l := [v0, v1, v2, v3, v4, v5, v6, v7]) hs rfl (fun k hk => by
    match k, hk with
    | 0, _ => exact cell_arr h h0
    | 1, _ => exact cell_arr h h1
    | 2, _ => exact cell_arr h h2
    | 3, _ => exact cell_arr h h3
    | 4, _ => exact cell_arr h h4
    | 5, _ => exact cell_arr h h5
    | 6, _ => exact cell_arr h h6
    | 7, _ => exact cell_arr h h7)]
theorem blk_known9 {W : World} {B : Nat} {t : TypeId} {v0 v1 v2 v3 v4 v5 v6 v7 v8 : Value} (h : Blk W B 9 t) (h0 : W.cell? ⟨B, 0, none⟩ = some v0) (h1 : W.cell? ⟨B, 1, none⟩ = some v1) (h2 : W.cell? ⟨B, 2, none⟩ = some v2) (h3 : W.cell? ⟨B, 3, none⟩ = some v3) (h4 : W.cell? ⟨B, 4, none⟩ = some v4) (h5 : W.cell? ⟨B, 5, none⟩ = some v5) (h6 : W.cell? ⟨B, 6, none⟩ = some v6) (h7 : W.cell? ⟨B, 7, none⟩ = some v7) (h8 : W.cell? ⟨B, 8, none⟩ = some v8) : W.heap[B]? = some (.cells #[v0, v1, v2, v3, v4, v5, v6, v7, v8] t (0, 0)) := by
  obtain ⟨arr, hs, h⟩ := h
  rw [h, arr_ext (l := [v0, v1, v2, v3, v4, v5, v6, v7, v8]) hs rfl (fun k hk => by
    match k, hk with
    | 0, _ => exact cell_arr h h0
    | 1, _ => exact cell_arr h h1
    | 2, _ => exact cell_arr h h2
    | 3, _ => exact cell_arr h h3
    | 4, _ => exact cell_arr h h4
    | 5, _ => exact cell_arr h h5
    | 6, _ => exact cell_arr h h6
    | 7, _ => exact cell_arr h h7
    | 8, _ => exact cell_arr h h8)]
theorem blk_known10 {W : World} {B : Nat} {t : TypeId} {v0 v1 v2 v3 v4 v5 v6 v7 v8 v9 : Value} (h : Blk W B 10 t) (h0 : W.cell? ⟨B, 0, none⟩ = some v0) (h1 : W.cell? ⟨B, 1, none⟩ = some v1) (h2 : W.cell? ⟨B, 2, none⟩ = some v2) (h3 : W.cell? ⟨B, 3, none⟩ = some v3) (h4 : W.cell? ⟨B, 4, none⟩ = some v4) (h5 : W.cell? ⟨B, 5, none⟩ = some v5) (h6 : W.cell? ⟨B, 6, none⟩ = some v6) (h7 : W.cell? ⟨B, 7, none⟩ = some v7) (h8 : W.cell? ⟨B, 8, none⟩ = some v8) (h9 : W.cell? ⟨B, 9, none⟩ = some v9) : W.heap[B]? = some (.cells #[v0, v1, v2, v3, v4, v5, v6, v7, v8, v9] t (0, 0)) := by
  obtain ⟨arr, hs, h⟩ := h
  rw [h, arr_ext (l := [v0, v1, v2, v3, v4, v5, v6, v7, v8, v9]) hs rfl (fun k hk => by
    match k, hk with
    | 0, _ => exact cell_arr h h0
    | 1, _ => exact cell_arr h h1
    | 2, _ => exact cell_arr h h2
    | 3, _ => exact cell_arr h h3
    | 4, _ => exact cell_arr h h4
    | 5, _ => exact cell_arr h h5
    | 6, _ => exact cell_arr h h6
    | 7, _ => exact cell_arr h h7
    | 8, _ => exact cell_arr h h8
    | 9, _ => exact cell_arr h h9)]
theorem blk_known11 {W : World} {B : Nat} {t : TypeId} {v0 v1 v2 v3 v4 v5 v6 v7 v8 v9 v10 : Value} (h : Blk W B 11 t) (h0 : W.cell? ⟨B, 0, none⟩ = some v0) (h1 : W.cell? ⟨B, 1, none⟩ = some v1) (h2 : W.cell? ⟨B, 2, none⟩ = some v2) (h3 : W.cell? ⟨B, 3, none⟩ = some v3) (h4 : W.cell? ⟨B, 4, none⟩ = some v4) (h5 : W.cell? ⟨B, 5, none⟩ = some v5) (h6 : W.cell? ⟨B, 6, none⟩ = some v6) (h7 : W.cell? ⟨B, 7, none⟩ = some v7) (h8 : W.cell? ⟨B, 8, none⟩ = some v8) (h9 : W.cell? ⟨B, 9, none⟩ = some v9) (h10 : W.cell? ⟨B, 10, none⟩ = some v10) : W.heap[B]? = some (.cells #[v0, v1, v2, v3, v4, v5, v6, v7, v8, v9, v10] t (0, 0)) := by
  obtain ⟨arr, hs, h⟩ := h
  rw [h, arr_ext (l := [v0, v1, v2, v3, v4, v5, v6, v7, v8, v9, v10]) hs rfl (fun k hk => by
    match k, hk with
    | 0, _ => exact cell_arr h h0
    | 1, _ => exact cell_arr h h1
    | 2, _ => exact cell_arr h h2
    | 3, _ => exact cell_arr h h3
    | 4, _ => exact cell_arr h h4
    | 5, _ => exact cell_arr h h5
    | 6, _ => exact cell_arr h h6
    | 7, _ => exact cell_arr h h7
    | 8, _ => exact cell_arr h h8
    | 9, _ => exact cell_arr h h9
    | 10, _ => exact cell_arr h h10)]
theorem blk_known12 {W : World} {B : Nat} {t : TypeId} {v0 v1 v2 v3 v4 v5 v6 v7 v8 v9 v10 v11 : Value} (h : Blk W B 12 t) (h0 : W.cell? ⟨B, 0, none⟩ = some v0) (h1 : W.cell? ⟨B, 1, none⟩ = some v1) (h2 : W.cell? ⟨B, 2, none⟩ = some v2) (h3 : W.cell? ⟨B, 3, none⟩ = some v3) (h4 : W.cell? ⟨B, 4, none⟩ = some v4) (h5 : W.cell? ⟨B, 5, none⟩ = some v5) (h6 : W.cell? ⟨B, 6, none⟩ = some v6) (h7 : W.cell? ⟨B, 7, none⟩ = some v7) (h8 : W.cell? ⟨B, 8, none⟩ = some v8) (h9 : W.cell? ⟨B, 9, none⟩ = some v9) (h10 : W.cell? ⟨B, 10, none⟩ = some v10) (h11 : W.cell? ⟨B, 11, none⟩ = some v11) : W.heap[B]? = some (.cells #[v0, v1, v2, v3, v4, v5, v6, v7, v8, v9, v10, v11] t (0, 0)) := by
  obtain ⟨arr, hs, h⟩ := h
  rw [h, arr_ext (l := [v0, v1, v2, v3, v4, v5, v6, v7, v8, v9, v10, v11]) hs rfl (fun k hk => by
    match k, hk with
    | 0, _ => exact cell_arr h h0
    | 1, _ => exact cell_arr h h1
    | 2, _ => exact cell_arr h h2
    | 3, _ => exact cell_arr h h3
    | 4, _ => exact cell_arr h h4
    | 5, _ => exact cell_arr h h5
    | 6, _ => exact cell_arr h h6
    | 7, _ => exact cell_arr h h7
    | 8, _ => exact cell_arr h h8
    | 9, _ => exact cell_arr h h9
    | 10, _ => exact cell_arr h h10
    | 11, _ => exact cell_arr h h11)]
theorem blk_known13 {W : World} {B : Nat} {t : TypeId} {v0 v1 v2 v3 v4 v5 v6 v7 v8 v9 v10 v11 v12 : Value} (h : Blk W B 13 t) (h0 : W.cell? ⟨B, 0, none⟩ = some v0) (h1 : W.cell? ⟨B, 1, none⟩ = some v1) (h2 : W.cell? ⟨B, 2, none⟩ = some v2) (h3 : W.cell? ⟨B, 3, none⟩ = some v3) (h4 : W.cell? ⟨B, 4, none⟩ = some v4) (h5 : W.cell? ⟨B, 5, none⟩ = some v5) (h6 : W.cell? ⟨B, 6, none⟩ = some v6) (h7 : W.cell? ⟨B, 7, none⟩ = some v7) (h8 : W.cell? ⟨B, 8, none⟩ = some v8) (h9 : W.cell? ⟨B, 9, none⟩ = some v9) (h10 : W.cell? ⟨B, 10, none⟩ = some v10) (h11 : W.cell? ⟨B, 11, none⟩ = some v11) (h12 : W.cell? ⟨B, 12, none⟩ = some v12) : W.heap[B]? = some (.cells #[v0, v1, v2, v3, v4, v5, v6, v7, v8, v9, v10, v11, v12] t (0, 0)) := by
  obtain ⟨arr, hs, h⟩ := h
  rw [h, arr_ext (l := [v0, v1, v2, v3, v4, v5, v6, v7, v8, v9, v10, v11, v12]) hs rfl (fun k hk => by
    match k, hk with
    | 0, _ => exact cell_arr h h0
    | 1, _ => exact cell_arr h h1
    | 2, _ => exact cell_arr h h2
    | 3, _ => exact cell_arr h h3
    | 4, _ => exact cell_arr h h4
    | 5, _ => exact cell_arr h h5
    | 6, _ => exact cell_arr h h6
    | 7, _ => exact cell_arr h h7
    | 8, _ => exact cell_arr h h8
    | 9, _ => exact cell_arr h h9
    | 10, _ => exact cell_arr h h10
    | 11, _ => exact cell_arr h h11
    | 12, _ => exact cell_arr h h12)]
theorem cell_set_off {W : World} {b o : Nat} {v u : Value} {a : Addr} (h : W.cell? ⟨b, o, none⟩ = some v) (hne : a.off ≠ o) : (W.setCell a u).cell? ⟨b, o, none⟩ = some v :=
  (World.cell?_setCell_other _ _ _ _ (by intro e; apply hne; rw [e])).trans h

/-- only block B, and what is new, has changed -/
theorem only_refl (W : World) (B : Nat) : W.grownBy W (some B) := World.grownBy.refl W _
theorem only_trans {A C D : World} {B : Nat} (h : A.grownBy C (some B)) (k : C.grownBy D (some B)) : A.grownBy D (some B) := h.trans k
theorem only_of_below {a w : World} {B : Nat} (h : Below a.heap.size a w) : a.grownBy w (some B) := ⟨h.os, h.tape, h.output, h.size, fun i hi _ => h.block i hi⟩
theorem only_call {a w w' : World} {B : Nat} (h : a.grownBy w (some B)) (hb : Below w.heap.size w w') : a.grownBy w' (some B) := h.trans (only_of_below hb)
theorem only_drew {a w : World} {row : Option Nat} (h : a.grownBy w row) : a.grownBy w.drew row := ⟨h.os, h.tape, h.output, h.size, h.block⟩
theorem only_alloc {a w : World} {row : Option Nat} {o : Obj} (h : a.grownBy w row) : a.grownBy (w.alloc o) row :=
  ⟨h.os, h.tape, h.output, Nat.le_trans h.size (by simp), fun i hi hne => (Below.heap_alloc w o i (Nat.lt_of_lt_of_le hi h.size)).trans (h.block i hi hne)⟩
theorem only_set {a w : World} {g : Nat} (h : a.grownBy w (some g)) {p : Addr} (hp : p.block = g ∨ a.heap.size ≤ p.block) (u : Value) : a.grownBy (w.setCell p u) (some g) :=
  ⟨h.os, h.tape, h.output, by simpa [World.setCell] using h.size, fun i hi hne => (Below.heap_setCell w p u i (by
    rintro rfl
    rcases hp with hp | hp
    · exact hne (by rw [hp])
    · omega)).trans (h.block i hi hne)⟩
/-- a call that changes block B alone, B new since w -/
theorem below_only {w W W' : World} {B : Nat} (h : Below w.heap.size w W) (hg : W.grownBy W' (some B)) (hB : w.heap.size ≤ B) : Below w.heap.size w W' :=
  h.grown hg h.size (fun k e => by cases e; exact hB)
theorem bblock_only {W W' : World} {B b : Nat} {o : Obj} (hg : W.grownBy W' (some B)) (h : W.heap[b]? = some o) (hne : b ≠ B) : W'.heap[b]? = some o :=
  (hg.block b (blk_lt h) (fun e => hne (by injection e))).trans h

/-- the results of a function whose first result is a struct in memory -/
theorem res_cell_tmp {P : Program} {fn : Func} {p q : Tmp} {ty : TypeId} (h : fn.results = #[.cell p ty, .tmp q]) {tmps : Array Value} {w : World} {g : Nat} {t : TypeId} {cs : Array Value} {fr : Nat × Nat} {d : TypeDesc}
    (hg : w.heap[g]? = some (.cells cs t fr)) (hp : tmps.getD p undef = .pointer (some ⟨g, 0, none⟩))
    (hu : P.underlying ty = some d) (hd : (match d with | .struct _ | .array _ _ => true | _ => false) = true) (hi : (P.info? ty).map (·.size) = some cs.size) :
    (results fn tmps).run P w = .ok (.tuple #[.agg cs, tmps.getD q undef]) w := by
  have hp' : tmps[p]?.getD undef = .pointer (some ⟨g, 0, none⟩) := by simpa using hp
  simp [results, h, hp', asAddr, run_loadVar_row w g t ty cs fr d hg hu hd hi]
theorem res_cell1 {P : Program} {fn : Func} {p : Tmp} {ty : TypeId} (h : fn.results = #[.cell p ty]) {tmps : Array Value} {w : World} {g : Nat} {t : TypeId} {cs : Array Value} {fr : Nat × Nat} {d : TypeDesc}
    (hg : w.heap[g]? = some (.cells cs t fr)) (hp : tmps.getD p undef = .pointer (some ⟨g, 0, none⟩))
    (hu : P.underlying ty = some d) (hd : (match d with | .struct _ | .array _ _ => true | _ => false) = true) (hi : (P.info? ty).map (·.size) = some cs.size) :
    (results fn tmps).run P w = .ok (.agg cs) w :=
  results_cell_row h tmps w g t cs fr d hp hg hu hd hi
theorem cells_eq {W : World} {B : Nat} {a b : Array Value} {t : TypeId} (h : W.heap[B]? = some (.cells a t (0, 0))) (e : a = b) : W.heap[B]? = some (.cells b t (0, 0)) := e ▸ h
end Go.Proofs.YtmgjcjacoegocaaDoor.Wire
