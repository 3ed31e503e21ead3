/-
  The table of path MTUs in memory: rows of entries; clearing a part of a row. No condition.
-/
import Derived.Test.YtmcfllogcmnnoaaDoorPathL
import Derived.Test.YtmcfllogcmnnoaaDoorBase1
import Derived.Lib.SliceRun
import Derived.Lib.LazyBuf
namespace Go.Proofs.YtmcfllogcmnnoaaDoor.Ic
set_option maxRecDepth 100000
open Go.RowKit Go.Proofs.YtmcfllogcmnnoaaDoor.Wire

def enV (e : En) : Value := .agg #[.int .i64 e.to, .int .i64 e.size, .int .i64 e.at_]
/-- entry i of the cells is e -/
def At (cur : Array Value) (i : Nat) (e : En) : Prop := cur[i * 3]? = some (.int .i64 e.to) ∧ cur[i * 3 + 1]? = some (.int .i64 e.size) ∧ cur[i * 3 + 2]? = some (.int .i64 e.at_)
/-- block g holds c entries, of which P tells some -/
def RowP (W : World) (g c : Nat) (T : TypeId) (P : Nat → En → Prop) : Prop := ∃ cur, W.heap[g]? = some (.cells cur T (0, 0)) ∧ cur.size = c * 3 ∧ ∀ i e, P i e → i < c ∧ At cur i e
theorem RowP.mono {W : World} {g c : Nat} {T : TypeId} {P Q : Nat → En → Prop} (h : RowP W g c T P) (hq : ∀ i e, Q i e → P i e) : RowP W g c T Q := by
  obtain ⟨cur, h1, h2, h3⟩ := h
  exact ⟨cur, h1, h2, fun i e q => h3 i e (hq i e q)⟩
theorem RowP.lt {W : World} {g c : Nat} {T : TypeId} {P : Nat → En → Prop} (h : RowP W g c T P) : g < W.heap.size := by obtain ⟨cur, h1, -⟩ := h; exact blk_lt h1
theorem RowP.below {W W' : World} {g c : Nat} {T : TypeId} {P : Nat → En → Prop} (h : RowP W g c T P) (hb : Below W.heap.size W W') : RowP W' g c T P := by
  obtain ⟨cur, h1, h2⟩ := h
  exact ⟨cur, bblock hb h1, h2⟩
theorem RowP.alloc {W : World} {g c : Nat} {T : TypeId} {P : Nat → En → Prop} (h : RowP W g c T P) (o : Obj) : RowP (W.alloc o) g c T P := by
  obtain ⟨cur, h1, h2⟩ := h
  exact ⟨cur, block_alloc h1 o, h2⟩
theorem RowP.drew {W : World} {g c : Nat} {T : TypeId} {P : Nat → En → Prop} (h : RowP W g c T P) : RowP W.drew g c T P := h
theorem RowP.other {W W' : World} {g c B : Nat} {T : TypeId} {P : Nat → En → Prop} (h : RowP W g c T P) (hg : W.grownBy W' (some B)) (hne : g ≠ B) : RowP W' g c T P := by
  obtain ⟨cur, h1, h2⟩ := h
  exact ⟨cur, bblock_only hg h1 hne, h2⟩
theorem RowP.setOther {W : World} {g c : Nat} {T : TypeId} {P : Nat → En → Prop} (h : RowP W g c T P) {p : Addr} (hp : p.block ≠ g) (u : Value) : RowP (W.setCell p u) g c T P := by
  obtain ⟨cur, h1, h2⟩ := h
  exact ⟨cur, block_set_other h1 hp, h2⟩
theorem RowP.cells {W : World} {g c : Nat} {T : TypeId} {P : Nat → En → Prop} (h : RowP W g c T P) (i : Nat) (e : En) (he : P i e) :
    W.cell? ⟨g, i * 3, none⟩ = some (.int .i64 e.to) ∧ W.cell? ⟨g, i * 3 + 1, none⟩ = some (.int .i64 e.size) ∧ W.cell? ⟨g, i * 3 + 2, none⟩ = some (.int .i64 e.at_) := by
  obtain ⟨cur, h1, h2, h3⟩ := h
  obtain ⟨-, q0, q1, q2⟩ := h3 i e he
  exact ⟨(cell_of_block h1 q0).1, (cell_of_block h1 q1).1, (cell_of_block h1 q2).1⟩
/-- any cell of the row is there -/
theorem RowP.any {W : World} {g c : Nat} {T : TypeId} {P : Nat → En → Prop} (h : RowP W g c T P) (k : Nat) (hk : k < c * 3) : (W.cell? ⟨g, k, none⟩).isSome = true ∧ W.frozen? ⟨g, k, none⟩ = false := by
  obtain ⟨cur, h1, h2, -⟩ := h
  have e : cur[k]? = some cur[k] := Array.getElem?_eq_getElem (by omega)
  obtain ⟨c1, c2⟩ := cell_of_block h1 e
  exact ⟨by rw [c1]; rfl, c2⟩
theorem RowP.froz {W : World} {g c : Nat} {T : TypeId} {P : Nat → En → Prop} (h : RowP W g c T P) (k : Nat) : W.frozen? ⟨g, k, none⟩ = false := by
  obtain ⟨cur, h1, h2, -⟩ := h
  exact blk_frozen (blk_of h1)
/-- entry i is written -/
theorem RowP.set {W : World} {g c : Nat} {T : TypeId} {P Q : Nat → En → Prop} (h : RowP W g c T P) (i : Nat) (hi : i < c) (e : En) (hq : ∀ j x, Q j x → (j = i ∧ x = e) ∨ (j ≠ i ∧ P j x)) :
    RowP (((W.setCell ⟨g, i * 3, none⟩ (.int .i64 e.to)).setCell ⟨g, i * 3 + 1, none⟩ (.int .i64 e.size)).setCell ⟨g, i * 3 + 2, none⟩ (.int .i64 e.at_)) g c T Q := by
  obtain ⟨cur, h1, h2, h3⟩ := h
  refine ⟨_, block_setCell (block_setCell (block_setCell h1)), by simpa using h2, fun j x hx => ?_⟩
  rcases hq j x hx with ⟨rfl, rfl⟩ | ⟨hne, hp⟩
  · refine ⟨hi, ?_, ?_, ?_⟩
    · rw [Array.getElem?_setIfInBounds_ne (by omega), Array.getElem?_setIfInBounds_ne (by omega), Array.getElem?_setIfInBounds_self, if_pos (by omega)]
    · rw [Array.getElem?_setIfInBounds_ne (by omega), Array.getElem?_setIfInBounds_self, if_pos (by simp; omega)]
    · rw [Array.getElem?_setIfInBounds_self, if_pos (by simp; omega)]
  · obtain ⟨hj, q0, q1, q2⟩ := h3 j x hp
    refine ⟨hj, ?_, ?_, ?_⟩
    all_goals
      rw [Array.getElem?_setIfInBounds_ne (by omega), Array.getElem?_setIfInBounds_ne (by omega), Array.getElem?_setIfInBounds_ne (by omega)]
      first | exact q0 | exact q1 | exact q2
/-- cells from o on are written: the entries ahead stay -/
theorem setCells_block {g : Nat} {T : TypeId} : ∀ (vs : List Value) (o : Nat) (W : World) (cur : Array Value), W.heap[g]? = some (.cells cur T (0, 0)) →
    ∃ cur', (W.setCells g o vs).heap[g]? = some (.cells cur' T (0, 0)) ∧ cur'.size = cur.size ∧ (∀ k, k < o → cur'[k]? = cur[k]?) ∧ (∀ k, o + vs.length ≤ k → cur'[k]? = cur[k]?) ∧ ∀ k u, vs[k]? = some u → o + k < cur.size → cur'[o + k]? = some u
  | [], o, W, cur, h => ⟨cur, h, rfl, fun _ _ => rfl, fun _ _ => rfl, fun k u hu => by simp at hu⟩
  | v :: vs, o, W, cur, h => by
    obtain ⟨cur', h1, h2, h3, h4, h5⟩ := setCells_block vs (o + 1) (W.setCell ⟨g, o, none⟩ v) _ (block_setCell h)
    refine ⟨cur', h1, by simpa using h2, fun k hk => ?_, fun k hk => ?_, fun k u hu hk => ?_⟩
    · rw [h3 k (by omega), Array.getElem?_setIfInBounds_ne (by omega)]
    · rw [h4 k (by simp at hk; omega), Array.getElem?_setIfInBounds_ne (by simp at hk; omega)]
    · cases k with
      | zero =>
        simp at hu; subst hu
        rw [Nat.add_zero, h3 o (by omega), Array.getElem?_setIfInBounds_self, if_pos (by omega)]
      | succ k =>
        have := h5 k u (by simpa using hu) (by simp; omega)
        rw [show o + (k + 1) = o + 1 + k by omega]; exact this
theorem RowP.setCells {W : World} {g c : Nat} {T : TypeId} {P Q : Nat → En → Prop} (h : RowP W g c T P) (i : Nat) (vs : List Value) (hq : ∀ j x, Q j x → P j x ∧ j < i) : RowP (W.setCells g (i * 3) vs) g c T Q := by
  obtain ⟨cur, h1, h2, h3⟩ := h
  obtain ⟨cur', k1, k2, k3, -, -⟩ := setCells_block vs (i * 3) W cur h1
  refine ⟨cur', k1, by omega, fun j x hx => ?_⟩
  obtain ⟨hp, hj⟩ := hq j x hx
  obtain ⟨hc, q0, q1, q2⟩ := h3 j x hp
  exact ⟨hc, (k3 _ (by omega)).trans q0, (k3 _ (by omega)).trans q1, (k3 _ (by omega)).trans q2⟩
theorem only_setCells {a : World} {g : Nat} : ∀ (vs : List Value) (o : Nat) {w : World}, a.grownBy w (some g) → a.grownBy (w.setCells g o vs) (some g)
  | [], _, _, h => h
  | v :: vs, o, _, h => only_setCells vs (o + 1) (only_set h (.inl rfl) v)
/-- the cells of entries -/
def enCells (l : List En) : List Value := l.flatMap fun e => [.int .i64 e.to, .int .i64 e.size, .int .i64 e.at_]
theorem enCells_length (l : List En) : (enCells l).length = l.length * 3 := by
  unfold enCells
  induction l with
  | nil => rfl
  | cons a l ih => simp [ih]; omega
theorem enCells_get : ∀ (l : List En) (i : Nat) (e : En), l[i]? = some e → (enCells l)[i * 3]? = some (.int .i64 e.to) ∧ (enCells l)[i * 3 + 1]? = some (.int .i64 e.size) ∧ (enCells l)[i * 3 + 2]? = some (.int .i64 e.at_)
  | [], i, x, h => by simp at h
  | a :: l, 0, x, h => by simp at h; subst h; simp [enCells]
  | a :: l, i + 1, x, h => by
    have := enCells_get l i x (by simpa using h)
    have e : enCells (a :: l) = .int .i64 a.to :: .int .i64 a.size :: .int .i64 a.at_ :: enCells l := rfl
    rw [e]
    have e1 : (i + 1) * 3 = i * 3 + 1 + 1 + 1 := by omega
    rw [e1]
    simpa using this
theorem enCells_one (l : List En) : ∀ u ∈ enCells l, u.oneCell' = true := by
  intro u hu
  unfold enCells at hu
  rw [List.mem_flatMap] at hu
  obtain ⟨e, -, h⟩ := hu
  simp at h
  rcases h with rfl | rfl | rfl <;> rfl
theorem RowP.lay {W : World} {g c : Nat} {T : TypeId} {P : Nat → En → Prop} (h : RowP W g c T P) (l : List En) (hl : l.length ≤ c) : RowP (W.setCells g 0 (enCells l)) g c T (fun i e => l[i]? = some e) := by
  obtain ⟨cur, h1, h2, h3⟩ := h
  obtain ⟨cur', k1, k2, -, -, k5⟩ := setCells_block (enCells l) 0 W cur h1
  refine ⟨cur', k1, by omega, fun j x hx => ?_⟩
  have hj : j < l.length := (List.getElem?_eq_some_iff.1 hx).1
  obtain ⟨q0, q1, q2⟩ := enCells_get l j x hx
  have key : ∀ k u, (enCells l)[k]? = some u → k < c * 3 → cur'[k]? = some u := fun k u hu hk => by
    have := k5 k u hu (by omega)
    rwa [Nat.zero_add] at this
  exact ⟨by omega, key _ _ q0 (by omega), key _ _ q1 (by omega), key _ _ q2 (by omega)⟩
/-- clear(s), s a slice of structs of three integers -/
theorem zeroCells_three (n : Nat) : (Builtin.zeroCells #[.int .i64 0, .int .i64 0, .int .i64 0] n).toList.length = n * 3 ∧ ∀ v ∈ (Builtin.zeroCells #[.int .i64 0, .int .i64 0, .int .i64 0] n).toList, v.oneCell' = true := by
  refine ⟨by simp [Builtin.zeroCells], fun v hv => ?_⟩
  simp only [Builtin.zeroCells, Array.toList_map, List.mem_map] at hv
  obtain ⟨i, -, rfl⟩ := hv
  have : i % 3 < 3 := Nat.mod_lt _ (by omega)
  generalize i % 3 = j at *
  match j, this with
  | 0, _ => rfl
  | 1, _ => rfl
  | 2, _ => rfl
theorem run_clear_three {P : Program} (w : World) (t e ty : TypeId) (ht : P.underlying t = some (.slice e)) (hv : ∀ w, (zeroValue e).run P w = .ok (.agg #[.int .i64 0, .int .i64 0, .int .i64 0]) w) (b o n c : Nat) (hn : 0 < n)
    (hc : ∀ j, j < n * 3 → (w.cell? ⟨b, o + j, none⟩).isSome = true) (hf : ∀ j, j < n * 3 → w.frozen? ⟨b, o + j, none⟩ = false) :
    (Builtin.clear_ #[t] ty #[.slice (some ⟨b, o, none⟩) n c]).run P w = .ok (.tuple #[]) (w.setCells b o (Builtin.zeroCells #[.int .i64 0, .int .i64 0, .int .i64 0] n).toList) := by
  obtain ⟨hl, h1⟩ := zeroCells_three n
  have hst := run_storeCells_cells (P := P) b o (Builtin.zeroCells #[.int .i64 0, .int .i64 0, .int .i64 0] n).toList 0 w (by rw [hl]; simpa using hc) (by rw [hl]; simpa using hf) h1
  simp only [Nat.add_zero] at hst
  obtain ⟨m, rfl⟩ : ∃ m, n = m + 1 := ⟨n - 1, by omega⟩
  simp [Builtin.clear_, run_underlying ht, hv, hst, Value.cells]
end Go.Proofs.YtmcfllogcmnnoaaDoor.Ic
