/-
  Slices of keys in memory: rows of keys; slices.IndexFunc and slices.DeleteFunc at keys, for every function value that answers a plain test.
-/
import Derived.Test.YtmeldgnjgogacaaReKey
import Derived.Test.YtmeldgnjgogacaaBase1
import Derived.Lib.SliceRun
import Derived.Lib.LazyBuf
import Derived.WalkKit
import Derived.WalkMore
import Derived.Deep.QuietTactic
import Derived.Shelf.Abstract
import Derived.Deep.Cut
namespace Go.Proofs.Ytmeldgnjgogacaa.Re
set_option maxRecDepth 100000
open Go.RowKit Go.Proofs.Ytmeldgnjgogacaa.Wire

def enV (e : Ky) : Value := .agg #[.int .i64 e.f, .int .i64 e.t, .int .i64 e.p, .int .i64 e.i]
/-- entry i of the cells is e -/
def At (cur : Array Value) (i : Nat) (e : Ky) : Prop := cur[i * 4]? = some (.int .i64 e.f) ∧ cur[i * 4 + 1]? = some (.int .i64 e.t) ∧ cur[i * 4 + 2]? = some (.int .i64 e.p) ∧ cur[i * 4 + 3]? = some (.int .i64 e.i)
/-- block g holds c entries, of which P tells some -/
def RowP (W : World) (g c : Nat) (T : TypeId) (P : Nat → Ky → Prop) : Prop := ∃ cur, W.heap[g]? = some (.cells cur T (0, 0)) ∧ cur.size = c * 4 ∧ ∀ i e, P i e → i < c ∧ At cur i e
theorem RowP.mono {W : World} {g c : Nat} {T : TypeId} {P Q : Nat → Ky → Prop} (h : RowP W g c T P) (hq : ∀ i e, Q i e → P i e) : RowP W g c T Q := by
  obtain ⟨cur, h1, h2, h3⟩ := h
  exact ⟨cur, h1, h2, fun i e q => h3 i e (hq i e q)⟩
theorem RowP.lt {W : World} {g c : Nat} {T : TypeId} {P : Nat → Ky → Prop} (h : RowP W g c T P) : g < W.heap.size := by obtain ⟨cur, h1, -⟩ := h; exact blk_lt h1
theorem RowP.below {W W' : World} {g c : Nat} {T : TypeId} {P : Nat → Ky → Prop} (h : RowP W g c T P) (hb : Below W.heap.size W W') : RowP W' g c T P := by
  obtain ⟨cur, h1, h2⟩ := h
  exact ⟨cur, bblock hb h1, h2⟩
theorem RowP.alloc {W : World} {g c : Nat} {T : TypeId} {P : Nat → Ky → Prop} (h : RowP W g c T P) (o : Obj) : RowP (W.alloc o) g c T P := by
  obtain ⟨cur, h1, h2⟩ := h
  exact ⟨cur, block_alloc h1 o, h2⟩
theorem RowP.drew {W : World} {g c : Nat} {T : TypeId} {P : Nat → Ky → Prop} (h : RowP W g c T P) : RowP W.drew g c T P := h
theorem RowP.other {W W' : World} {g c B : Nat} {T : TypeId} {P : Nat → Ky → Prop} (h : RowP W g c T P) (hg : W.grownBy W' (some B)) (hne : g ≠ B) : RowP W' g c T P := by
  obtain ⟨cur, h1, h2⟩ := h
  exact ⟨cur, bblock_only hg h1 hne, h2⟩
theorem RowP.setOther {W : World} {g c : Nat} {T : TypeId} {P : Nat → Ky → Prop} (h : RowP W g c T P) {p : Addr} (hp : p.block ≠ g) (u : Value) : RowP (W.setCell p u) g c T P := by
  obtain ⟨cur, h1, h2⟩ := h
  exact ⟨cur, block_set_other h1 hp, h2⟩
theorem RowP.cells {W : World} {g c : Nat} {T : TypeId} {P : Nat → Ky → Prop} (h : RowP W g c T P) (i : Nat) (e : Ky) (he : P i e) :
    W.cell? ⟨g, i * 4, none⟩ = some (.int .i64 e.f) ∧ W.cell? ⟨g, i * 4 + 1, none⟩ = some (.int .i64 e.t) ∧ W.cell? ⟨g, i * 4 + 2, none⟩ = some (.int .i64 e.p) ∧ W.cell? ⟨g, i * 4 + 3, none⟩ = some (.int .i64 e.i) := by
  obtain ⟨cur, h1, h2, h3⟩ := h
  obtain ⟨-, q0, q1, q2, q3⟩ := h3 i e he
  exact ⟨(cell_of_block h1 q0).1, (cell_of_block h1 q1).1, (cell_of_block h1 q2).1, (cell_of_block h1 q3).1⟩
/-- any cell of the row is there -/
theorem RowP.any {W : World} {g c : Nat} {T : TypeId} {P : Nat → Ky → Prop} (h : RowP W g c T P) (k : Nat) (hk : k < c * 4) : (W.cell? ⟨g, k, none⟩).isSome = true ∧ W.frozen? ⟨g, k, none⟩ = false := by
  obtain ⟨cur, h1, h2, -⟩ := h
  have e : cur[k]? = some cur[k] := Array.getElem?_eq_getElem (by omega)
  obtain ⟨c1, c2⟩ := cell_of_block h1 e
  exact ⟨by rw [c1]; rfl, c2⟩
theorem RowP.froz {W : World} {g c : Nat} {T : TypeId} {P : Nat → Ky → Prop} (h : RowP W g c T P) (k : Nat) : W.frozen? ⟨g, k, none⟩ = false := by
  obtain ⟨cur, h1, h2, -⟩ := h
  exact blk_frozen (blk_of h1)
/-- entry i is written -/
theorem RowP.set {W : World} {g c : Nat} {T : TypeId} {P Q : Nat → Ky → Prop} (h : RowP W g c T P) (i : Nat) (hi : i < c) (e : Ky) (hq : ∀ j x, Q j x → (j = i ∧ x = e) ∨ (j ≠ i ∧ P j x)) :
    RowP ((((W.setCell ⟨g, i * 4, none⟩ (.int .i64 e.f)).setCell ⟨g, i * 4 + 1, none⟩ (.int .i64 e.t)).setCell ⟨g, i * 4 + 2, none⟩ (.int .i64 e.p)).setCell ⟨g, i * 4 + 3, none⟩ (.int .i64 e.i)) g c T Q := by
  obtain ⟨cur, h1, h2, h3⟩ := h
  refine ⟨_, block_setCell (block_setCell (block_setCell (block_setCell h1))), by simpa using h2, fun j x hx => ?_⟩
  rcases hq j x hx with ⟨rfl, rfl⟩ | ⟨hne, hp⟩
  · refine ⟨hi, ?_, ?_, ?_, ?_⟩
    · rw [Array.getElem?_setIfInBounds_ne (by omega), Array.getElem?_setIfInBounds_ne (by omega), Array.getElem?_setIfInBounds_ne (by omega), Array.getElem?_setIfInBounds_self, if_pos (by omega)]
    · rw [Array.getElem?_setIfInBounds_ne (by omega), Array.getElem?_setIfInBounds_ne (by omega), Array.getElem?_setIfInBounds_self, if_pos (by simp; omega)]
    · rw [Array.getElem?_setIfInBounds_ne (by omega), Array.getElem?_setIfInBounds_self, if_pos (by simp; omega)]
    · rw [Array.getElem?_setIfInBounds_self, if_pos (by simp; omega)]
  · obtain ⟨hj, q0, q1, q2, q3⟩ := h3 j x hp
    refine ⟨hj, ?_, ?_, ?_, ?_⟩
    all_goals
      rw [Array.getElem?_setIfInBounds_ne (by omega), Array.getElem?_setIfInBounds_ne (by omega), Array.getElem?_setIfInBounds_ne (by omega), Array.getElem?_setIfInBounds_ne (by omega)]
      first | exact q0 | exact q1 | exact q2 | exact q3
/-- cells from o on are written: the entries ahead stay -/
theorem setCells_block {g : Nat} {T : TypeId} : ∀ (vs : List Value) (o : Nat) (W : World) (cur : Array Value), W.heap[g]? = some (.cells cur T (0, 0)) →
    ∃ cur', (W.setCells g o vs).heap[g]? = some (.cells cur' T (0, 0)) ∧ cur'.size = cur.size ∧ (∀ k, k < o → cur'[k]? = cur[k]?) ∧ (∀ k, o + vs.length ≤ k → cur'[k]? = cur[k]?) ∧ ∀ k u, vs[k]? = some u → o + k < cur.size → cur'[o + k]? = some u
  | [], o, W, cur, h => ⟨cur, h, rfl, fun _ _ => rfl, fun _ _ => rfl, fun k u hu => by simp at hu⟩
  | v :: vs, o, W, cur, h => by
    obtain ⟨cur', h1, h2, h3, h4, h5⟩ := setCells_block vs (o + 1) (W.setCell ⟨g, o, none⟩ v) _ (block_setCell h)
    refine ⟨cur', h1, by simpa using h2, fun k hk => ?_, fun k hk => ?_, fun k u hu hk => ?_⟩
    · rw [h3 k (by omega), Array.getElem?_setIfInBounds_ne (by omega)]
    · rw [h4 k (by simp at hk; omega), Array.getElem?_setIfInBounds_ne (by simp at hk; omega)]
    · cases k with
      | zero =>
        simp at hu; subst hu
        rw [Nat.add_zero, h3 o (by omega), Array.getElem?_setIfInBounds_self, if_pos (by omega)]
      | succ k =>
        have := h5 k u (by simpa using hu) (by simp; omega)
        rw [show o + (k + 1) = o + 1 + k by omega]; exact this
theorem RowP.setCells {W : World} {g c : Nat} {T : TypeId} {P Q : Nat → Ky → Prop} (h : RowP W g c T P) (i : Nat) (vs : List Value) (hq : ∀ j x, Q j x → P j x ∧ j < i) : RowP (W.setCells g (i * 4) vs) g c T Q := by
  obtain ⟨cur, h1, h2, h3⟩ := h
  obtain ⟨cur', k1, k2, k3, -, -⟩ := setCells_block vs (i * 4) W cur h1
  refine ⟨cur', k1, by omega, fun j x hx => ?_⟩
  obtain ⟨hp, hj⟩ := hq j x hx
  obtain ⟨hc, q0, q1, q2, q3⟩ := h3 j x hp
  exact ⟨hc, (k3 _ (by omega)).trans q0, (k3 _ (by omega)).trans q1, (k3 _ (by omega)).trans q2, (k3 _ (by omega)).trans q3⟩
theorem only_setCells {a : World} {g : Nat} : ∀ (vs : List Value) (o : Nat) {w : World}, a.grownBy w (some g) → a.grownBy (w.setCells g o vs) (some g)
  | [], _, _, h => h
  | v :: vs, o, _, h => only_setCells vs (o + 1) (only_set h (.inl rfl) v)
/-- the cells of entries -/
def enCells (l : List Ky) : List Value := l.flatMap fun e => [.int .i64 e.f, .int .i64 e.t, .int .i64 e.p, .int .i64 e.i]
theorem enCells_length (l : List Ky) : (enCells l).length = l.length * 4 := by
  unfold enCells
  induction l with
  | nil => rfl
  | cons a l ih => simp [ih]; omega
theorem enCells_get : ∀ (l : List Ky) (i : Nat) (e : Ky), l[i]? = some e → (enCells l)[i * 4]? = some (.int .i64 e.f) ∧ (enCells l)[i * 4 + 1]? = some (.int .i64 e.t) ∧ (enCells l)[i * 4 + 2]? = some (.int .i64 e.p) ∧ (enCells l)[i * 4 + 3]? = some (.int .i64 e.i)
  | [], i, x, h => by simp at h
  | a :: l, 0, x, h => by simp at h; subst h; simp [enCells]
  | a :: l, i + 1, x, h => by
    have := enCells_get l i x (by simpa using h)
    have e : enCells (a :: l) = .int .i64 a.f :: .int .i64 a.t :: .int .i64 a.p :: .int .i64 a.i :: enCells l := rfl
    rw [e]
    have e1 : (i + 1) * 4 = i * 4 + 1 + 1 + 1 + 1 := by omega
    rw [e1]
    simpa using this
theorem enCells_one (l : List Ky) : ∀ u ∈ enCells l, u.oneCell' = true := by
  intro u hu
  unfold enCells at hu
  rw [List.mem_flatMap] at hu
  obtain ⟨e, -, h⟩ := hu
  simp at h
  rcases h with rfl | rfl | rfl | rfl <;> rfl
theorem RowP.lay {W : World} {g c : Nat} {T : TypeId} {P : Nat → Ky → Prop} (h : RowP W g c T P) (l : List Ky) (hl : l.length ≤ c) : RowP (W.setCells g 0 (enCells l)) g c T (fun i e => l[i]? = some e) := by
  obtain ⟨cur, h1, h2, h3⟩ := h
  obtain ⟨cur', k1, k2, -, -, k5⟩ := setCells_block (enCells l) 0 W cur h1
  refine ⟨cur', k1, by omega, fun j x hx => ?_⟩
  have hj : j < l.length := (List.getElem?_eq_some_iff.1 hx).1
  obtain ⟨q0, q1, q2, q3⟩ := enCells_get l j x hx
  have key : ∀ k u, (enCells l)[k]? = some u → k < c * 4 → cur'[k]? = some u := fun k u hu hk => by
    have := k5 k u hu (by omega)
    rwa [Nat.zero_add] at this
  exact ⟨by omega, key _ _ q0 (by omega), key _ _ q1 (by omega), key _ _ q2 (by omega), key _ _ q3 (by omega)⟩
/-- clear(s), s a slice of structs of four integers -/
theorem zeroCells_four (n : Nat) : (Builtin.zeroCells #[.int .i64 0, .int .i64 0, .int .i64 0, .int .i64 0] n).toList.length = n * 4 ∧ ∀ v ∈ (Builtin.zeroCells #[.int .i64 0, .int .i64 0, .int .i64 0, .int .i64 0] n).toList, v.oneCell' = true := by
  refine ⟨by simp [Builtin.zeroCells], fun v hv => ?_⟩
  simp only [Builtin.zeroCells, Array.toList_map, List.mem_map] at hv
  obtain ⟨i, -, rfl⟩ := hv
  have : i % 4 < 4 := Nat.mod_lt _ (by omega)
  generalize i % 4 = j at *
  match j, this with
  | 0, _ => rfl
  | 1, _ => rfl
  | 2, _ => rfl
  | 3, _ => rfl
theorem run_clear_four {P : Program} (w : World) (t e ty : TypeId) (ht : P.underlying t = some (.slice e)) (hv : ∀ w, (zeroValue e).run P w = .ok (.agg #[.int .i64 0, .int .i64 0, .int .i64 0, .int .i64 0]) w) (b o n c : Nat) (hn : 0 < n)
    (hc : ∀ j, j < n * 4 → (w.cell? ⟨b, o + j, none⟩).isSome = true) (hf : ∀ j, j < n * 4 → w.frozen? ⟨b, o + j, none⟩ = false) :
    (Builtin.clear_ #[t] ty #[.slice (some ⟨b, o, none⟩) n c]).run P w = .ok (.tuple #[]) (w.setCells b o (Builtin.zeroCells #[.int .i64 0, .int .i64 0, .int .i64 0, .int .i64 0] n).toList) := by
  obtain ⟨hl, h1⟩ := zeroCells_four n
  have hst := run_storeCells_cells (P := P) b o (Builtin.zeroCells #[.int .i64 0, .int .i64 0, .int .i64 0, .int .i64 0] n).toList 0 w (by rw [hl]; simpa using hc) (by rw [hl]; simpa using hf) h1
  simp only [Nat.add_zero] at hst
  obtain ⟨m, rfl⟩ : ∃ m, n = m + 1 := ⟨n - 1, by omega⟩
  simp [Builtin.clear_, run_underlying ht, hv, hst, Value.cells]

/-- the function value answers the test p, whatever has become of block g -/
def Tests (fn : Nat) (lb : Array Value) (p : Ky → Bool) (g : Nat) (l : List Ky) (w : World) : Prop := ∀ (e : Ky) (_ : e ∈ l) (W : World), w.grownBy W (some g) →
  Calls Try.prog fn (#[enV e] ++ lb) W fun x W' => x = .returned (.bool (p e)) ∧ Below W.heap.size W W'
/-- the first place at which p holds -/
def idxI (p : Ky → Bool) (l : List Ky) : Int := match l.findIdx? p with | some i => (i : Int) | none => -1
theorem idxI_none {p : Ky → Bool} {l : List Ky} (h : ∀ (j : Nat) (e : Ky), l[j]? = some e → p e = false) : idxI p l = -1 := by
  unfold idxI
  rw [List.findIdx?_eq_none_iff.2 (fun e he => by obtain ⟨j, hj⟩ := List.getElem?_of_mem he; exact h j e hj)]
theorem idxI_some {p : Ky → Bool} {l : List Ky} {k : Nat} {x : Ky} (hx : l[k]? = some x) (hp : p x = true) (h : ∀ (j : Nat) (e : Ky), j < k → l[j]? = some e → p e = false) : idxI p l = (k : Int) := by
  unfold idxI
  obtain ⟨hk, rfl⟩ := List.getElem?_eq_some_iff.1 hx
  have : l.findIdx? p = some k := by
    rw [List.findIdx?_eq_some_iff_getElem]
    exact ⟨hk, hp, fun j hj => by rw [h j _ hj (List.getElem?_eq_getElem (by omega))]; simp⟩
  rw [this]
set_option maxHeartbeats 2000000 in
theorem index_any (fn : Nat) (lb : Array Value) (eg : ∀ args w, (callFunc fn args).run Try.prog w = .ok (.enter fn args) w) (p : Ky → Bool) (g c : Nat) (l : List Ky) (w : World) (hl : l.length ≤ 9223372036854775807)
    (hr : RowP w g c 79 (fun i e => l[i]? = some e)) (hp : Tests fn lb p g l w) :
    Calls Try.prog 78 #[.slice (some ⟨g, 0, none⟩) l.length c, .func (.func fn) #[] lb] w fun x w' => x = .returned (.int .i64 (idxI p l)) ∧ Below w.heap.size w w' := by
  have HR := Lib.hid hr; have HP := Lib.hid hp; clear hr hp
  have HB := Below.refl w.heap.size w
  obtain ⟨n, hn⟩ : ∃ n, n = l.length := ⟨_, rfl⟩
  rw [← hn] at hl ⊢
  have HN := Lib.hid hn; clear hn
  go_enter Try.func78, Try.ntmps78
  go_wp2_with fail
  go_loopw [5, 8] (fun _ i wr => ∃ k : Nat, k ≤ n ∧ i = .int .i64 (k : Int) ∧ (∀ (j : Nat) (e : Ky), j < k → l[j]? = some e → p e = false) ∧ Below w.heap.size w wr) (fun _ i _ => n - (Go.RowKit.intOf i).toNat)
  case atStart => exact ⟨0, by omega, rfl, fun j e hj => by omega, HB⟩
  case round =>
    clear HB
    obtain ⟨k, hk, rfl, hok, HB⟩ := hrel
    have HO := Lib.hid hok; clear hok
    by_cases hlt : k < n
    · have k1 : (0 : Int) ≤ (k : Int) := by omega
      have k2 : (k : Int) < (n : Int) := by omega
      obtain ⟨x, hx⟩ : ∃ x, l[k]? = some x := ⟨l[k]'(by rw [← HN.out]; exact hlt), List.getElem?_eq_getElem _⟩
      obtain ⟨c0, c1, c2, c3⟩ := HR.out.cells k x hx
      have hgl := HR.out.lt
      have d0 := (HB.cell (p := ⟨g, k * 4, none⟩) hgl).trans c0
      have d1 := (HB.cell (p := ⟨g, k * 4 + 1, none⟩) hgl).trans c1
      have d2 := (HB.cell (p := ⟨g, k * 4 + 2, none⟩) hgl).trans c2
      have d3 := (HB.cell (p := ⟨g, k * 4 + 3, none⟩) hgl).trans c3
      have HX := Lib.hid hx; clear hx c0 c1 c2 c3
      have HC : Hid (∀ W, Below wr.heap.size wr W → Calls Try.prog fn (#[enV x] ++ lb) W fun x' W' => x' = .returned (.bool (p x)) ∧ Below W.heap.size W W') := Lib.hid fun W hb => HP.out x (List.mem_of_getElem? HX.out) W (only_of_below (below_call HB hb))
      unfold enV at HC
      cases hq : p x with
      | true =>
        rw [hq] at HC
        go_wp2_with (go_at_fn fn; refine (HC.out _ (by first | exact Below.refl _ _ | exact (Below.refl _ _).drew)).mono ?_; rintro e w' ⟨rfl, hb⟩)
        go_ret
        exact ⟨by rw [idxI_some HX.out hq (fun j e hj => HO.out j e hj)]; rfl, below_call HB hb⟩
      | false =>
        rw [hq] at HC
        go_wp2_with (go_at_fn fn; refine (HC.out _ (by first | exact Below.refl _ _ | exact (Below.refl _ _).drew)).mono ?_; rintro e w' ⟨rfl, hb⟩)
        refine ⟨⟨k + 1, by omega, by go_num, fun j e hj he => ?_, below_call HB hb⟩, by simp [Go.RowKit.intOf]; omega⟩
        rcases Nat.lt_succ_iff_lt_or_eq.1 hj with q | q
        · exact HO.out j e q he
        · subst q; rw [HX.out] at he; cases he; exact hq
    · have hltz : ¬ (k : Int) < (n : Int) := by omega
      have HK : Hid (k = n) := Lib.hid (by omega)
      go_wp2_with fail
      go_ret
      exact ⟨by rw [idxI_none (fun j e he => HO.out j e (by rw [HK.out, HN.out]; exact (List.getElem?_eq_some_iff.1 he).1) he)]; rfl, HB⟩
/-- what DeleteFunc leaves -/
def keepL (p : Ky → Bool) (l : List Ky) : List Ky := l.filter fun e => !p e
/-- the second loop: m entries looked at, k of them kept -/
structure Half (p : Ky → Bool) (l : List Ky) (m k : Nat) : Prop where
  len : (keepL p (l.take m)).length = k
  lt : k < m
theorem keepL_succ {p : Ky → Bool} {l : List Ky} {m : Nat} {x : Ky} (hx : l[m]? = some x) : keepL p (l.take (m + 1)) = keepL p (l.take m) ++ (if p x = true then [] else [x]) := by
  unfold keepL
  rw [List.take_add_one, hx, List.filter_append]
  congr 1
  cases h : p x <;> simp [h]
theorem Half.start {p : Ky → Bool} {l : List Ky} {k : Nat} {x : Ky} (hx : l[k]? = some x) (hp : p x = true) (h : ∀ (j : Nat) (e : Ky), j < k → l[j]? = some e → p e = false) : Half p l (k + 1) k ∧ ∀ (i : Nat) (e : Ky), (keepL p (l.take (k + 1)))[i]? = some e → l[i]? = some e := by
  have e1 : keepL p (l.take k) = l.take k := by
    unfold keepL
    rw [List.filter_eq_self]
    intro e he
    obtain ⟨j, hj⟩ := List.getElem?_of_mem he
    have hjk : j < k := by
      have := (List.getElem?_eq_some_iff.1 hj).1
      rw [List.length_take] at this; omega
    rw [List.getElem?_take_of_lt hjk] at hj
    simp [h j e hjk hj]
  have hk : k < l.length := (List.getElem?_eq_some_iff.1 hx).1
  refine ⟨⟨?_, by omega⟩, fun i e he => ?_⟩
  · rw [keepL_succ hx, e1, if_pos hp, List.append_nil, List.length_take]; omega
  · rw [keepL_succ hx, e1, if_pos hp, List.append_nil] at he
    have hik : i < k := by
      have := (List.getElem?_eq_some_iff.1 he).1
      rw [List.length_take] at this; omega
    rwa [List.getElem?_take_of_lt hik] at he
/-- what the row holds in the second loop -/
def HalfP (p : Ky → Bool) (l : List Ky) (m : Nat) (i : Nat) (e : Ky) : Prop := (keepL p (l.take m))[i]? = some e ∨ (m ≤ i ∧ l[i]? = some e)
theorem keepL_mem {p : Ky → Bool} {l : List Ky} {e : Ky} (h : e ∈ keepL p l) : e ∈ l := (List.mem_filter.1 h).1

theorem idxI_cases (p : Ky → Bool) (l : List Ky) : (idxI p l = -1 ∧ keepL p l = l) ∨ ∃ k x, idxI p l = ((k : Nat) : Int) ∧ l[k]? = some x ∧ p x = true ∧ ∀ (j : Nat) (e : Ky), j < k → l[j]? = some e → p e = false := by
  cases h : l.findIdx? p with
  | none =>
    left
    have := List.findIdx?_eq_none_iff.1 h
    refine ⟨by unfold idxI; rw [h], ?_⟩
    unfold keepL
    rw [List.filter_eq_self]
    intro e he
    simp [this e he]
  | some k =>
    right
    rw [List.findIdx?_eq_some_iff_getElem] at h
    obtain ⟨hk, hp, hj⟩ := h
    have hk' : l[k]? = some l[k] := List.getElem?_eq_getElem hk
    have hall : ∀ (j : Nat) (e : Ky), j < k → l[j]? = some e → p e = false := fun j e hjk he => by
      obtain ⟨hl, rfl⟩ := List.getElem?_eq_some_iff.1 he
      simpa using hj j hjk
    exact ⟨k, l[k], idxI_some hk' hp hall, hk', hp, hall⟩
set_option maxHeartbeats 4000000 in
theorem delete_any (fn : Nat) (lb : Array Value) (eg : ∀ args w, (callFunc fn args).run Try.prog w = .ok (.enter fn args) w) (p : Ky → Bool) (g c : Nat) (l : List Ky) (w : World) (hl : l.length ≤ c) (hc : l.length ≤ 1000000)
    (hr : RowP w g c 79 (fun i e => l[i]? = some e)) (hp : Tests fn lb p g l w) :
    Calls Try.prog 61 #[.slice (some ⟨g, 0, none⟩) l.length c, .func (.func fn) #[] lb] w fun x w' =>
      x = .returned (.slice (some ⟨g, 0, none⟩) (keepL p l).length c) ∧ RowP w' g c 79 (fun i e => (keepL p l)[i]? = some e) ∧ w.grownBy w' (some g) := by
  have HI := Lib.hid (index_any fn lb eg p g c l w (by omega) hr hp)
  have HR := Lib.hid hr; have HP := Lib.hid hp; clear hr hp
  obtain ⟨n, hn⟩ : ∃ n, n = l.length := ⟨_, rfl⟩
  rw [← hn] at hl hc HI ⊢
  have HN := Lib.hid hn; clear hn
  rcases idxI_cases p l with ⟨e1, e2⟩ | ⟨k0, x0, e1, hx0, hp0, hall⟩
  · rw [e1] at HI
    have HK := Lib.hid e2; clear e1 e2
    go_enter Try.func61, Try.ntmps61
    go_wp2_with fail
    refine HI.out.mono ?_
    rintro e w1 ⟨rfl, hb⟩
    go_wp2_with fail
    go_ret
    exact ⟨by rw [HK.out, ← HN.out]; rfl, by rw [HK.out]; exact HR.out.below hb, only_of_below hb⟩
  · rw [e1] at HI
    obtain ⟨hs, hs2⟩ := Half.start hx0 hp0 hall
    have HS := Lib.hid hs; have HS2 := Lib.hid hs2
    have HX0 : Hid (k0 < n) := Lib.hid (by rw [HN.out]; exact (List.getElem?_eq_some_iff.1 hx0).1)
    clear e1 hx0 hp0 hall hs hs2
    go_enter Try.func61, Try.ntmps61
    have hk0 : ((k0 : Int) == -1) = false := beq_eq_false_iff_ne.2 (by omega)
    have hk1 : (k0 : Int) ≤ 1000000 := by have := HX0.out; omega
    have hk2 : (0 : Int) ≤ (k0 : Int) := by omega
    go_wp2_with fail
    refine HI.out.mono ?_
    rintro e w1 ⟨rfl, hb⟩
    have HG := only_of_below (B := g) hb
    have HR1 := Lib.hid ((HR.out.below hb).mono (Q := HalfP p l (k0 + 1)) (fun i e he => by
      rcases he with he | ⟨-, he⟩
      · exact HS2.out i e he
      · exact he))
    clear hb
    go_wp2_with fail
    clear hk0 hk1 hk2
    go_loopw [5, 6, 7] (fun a b _ wr => ∃ k m : Nat, m ≤ n ∧ a = .int .i64 (k : Int) ∧ b = .int .i64 (m : Int) ∧ Half p l m k ∧ RowP wr g c 79 (HalfP p l m) ∧ w.grownBy wr (some g)) (fun _ b _ _ => n - (Go.RowKit.intOf b).toNat)
    case atStart => exact ⟨k0, k0 + 1, by have := HX0.out; omega, rfl, by go_num, HS.out, HR1.out, HG⟩
    case round =>
      clear HG HR1
      obtain ⟨k, m, hm, rfl, rfl, hH, hrow, HG⟩ := hrel
      have HR2 := Lib.hid hrow; have HH := Lib.hid hH; clear hrow hH
      have hkm := HH.out.lt
      have hgl := HR2.out.lt
      by_cases hlt : m < n
      · have k1 : (0 : Int) ≤ (m : Int) := by omega
        have k2 : (m : Int) < (n : Int) := by omega
        obtain ⟨x, hx⟩ : ∃ x, l[m]? = some x := ⟨l[m]'(by rw [← HN.out]; exact hlt), List.getElem?_eq_getElem _⟩
        obtain ⟨c0, c1, c2, c3⟩ := HR2.out.cells m x (.inr ⟨Nat.le_refl _, hx⟩)
        have HX := Lib.hid hx; clear hx
        have HC : Hid (∀ W, w.grownBy W (some g) → Calls Try.prog fn (#[enV x] ++ lb) W fun x' W' => x' = .returned (.bool (p x)) ∧ Below W.heap.size W W') := Lib.hid fun W hb => HP.out x (List.mem_of_getElem? HX.out) W hb
        have hA := Lib.hid (alloc_new wr (.cells #[.int .i64 x.f, .int .i64 x.t, .int .i64 x.p, .int .i64 x.i] 79))
        have HGA := only_alloc (o := .cells #[.int .i64 x.f, .int .i64 x.t, .int .i64 x.p, .int .i64 x.i] 79) HG
        have HRA := Lib.hid (HR2.out.alloc (.cells #[.int .i64 x.f, .int .i64 x.t, .int .i64 x.p, .int .i64 x.i] 79))
        have a0 := (cell_of_block (k := 0) hA.out rfl).1; have a1 := (cell_of_block (k := 1) hA.out rfl).1; have a2 := (cell_of_block (k := 2) hA.out rfl).1; have a3 := (cell_of_block (k := 3) hA.out rfl).1
        unfold enV at HC
        cases hq : p x with
        | true =>
          rw [hq] at HC
          have HQ := Lib.hid hq; clear hq
          go_wp2_with (go_at_fn fn; refine (HC.out _ HGA).mono ?_; rintro e w2 ⟨rfl, hb⟩)
          have hne : ((g : Nat) ≠ wr.heap.size) := by omega
          refine ⟨⟨k, m + 1, by omega, rfl, by go_num, ⟨?_, by omega⟩, (HRA.out.below hb).mono fun i e he => ?_, only_call HGA hb⟩, by simp [Go.RowKit.intOf]; omega⟩
          · rw [keepL_succ HX.out, if_pos HQ.out, List.append_nil]; exact HH.out.len
          · unfold HalfP at he ⊢
            rw [keepL_succ HX.out, if_pos HQ.out, List.append_nil] at he
            rcases he with he | ⟨h1, h2⟩
            · exact .inl he
            · exact .inr ⟨by omega, h2⟩
        | false =>
          rw [hq] at HC
          have HQ := Lib.hid hq; clear hq
          go_wp2_with (go_at_fn fn; refine (HC.out _ HGA).mono ?_; rintro e w2 ⟨rfl, hb⟩; have b0 := bcell hb a0; have b1 := bcell hb a1; have b2 := bcell hb a2; have b3 := bcell hb a3; have HR3 := Lib.hid (HRA.out.below hb); have HG3 := only_call HGA hb; obtain ⟨u0, s0⟩ := Option.isSome_iff_exists.1 (HR3.out.any (k * 4) (by omega)).1; obtain ⟨u1, s1⟩ := Option.isSome_iff_exists.1 (HR3.out.any (k * 4 + 1) (by omega)).1; obtain ⟨u2, s2⟩ := Option.isSome_iff_exists.1 (HR3.out.any (k * 4 + 2) (by omega)).1; obtain ⟨u3, s3⟩ := Option.isSome_iff_exists.1 (HR3.out.any (k * 4 + 3) (by omega)).1; have f0 := HR3.out.froz (k * 4); have f1 := HR3.out.froz (k * 4 + 1); have f2 := HR3.out.froz (k * 4 + 2); have f3 := HR3.out.froz (k * 4 + 3); have k3 : (0 : Int) ≤ (k : Int) := (by omega); have k4 : (k : Int) < (n : Int) := (by omega))
          refine ⟨⟨k + 1, m + 1, by omega, by go_num, by go_num, ⟨?_, by omega⟩, HR3.out.set k (by omega) x fun i e he => ?_, only_set (only_set (only_set (only_set HG3 (.inl rfl) _) (.inl rfl) _) (.inl rfl) _) (.inl rfl) _⟩, by simp [Go.RowKit.intOf]; omega⟩
          · rw [keepL_succ HX.out, if_neg (by rw [HQ.out]; decide), List.length_append, HH.out.len]; rfl
          · unfold HalfP at he ⊢
            rw [keepL_succ HX.out, if_neg (by rw [HQ.out]; decide)] at he
            have hl := HH.out.len
            rcases he with he | ⟨h1, h2⟩
            · rcases Nat.lt_trichotomy i k with q | q | q
              · rw [List.getElem?_append_left (by omega)] at he
                exact .inr ⟨by omega, .inl he⟩
              · subst q
                rw [List.getElem?_append_right (by omega), hl, Nat.sub_self] at he
                exact .inl ⟨rfl, (Option.some.inj he).symm⟩
              · rw [List.getElem?_eq_none (by simp; omega)] at he; cases he
            · exact .inr ⟨by omega, .inr ⟨by omega, h2⟩⟩
      · have hmn : m = n := by omega
        have HK : Hid (l.take m = l) := Lib.hid (List.take_of_length_le (by rw [← HN.out]; omega))
        clear hlt
        have HM := Lib.hid hmn
        subst hmn
        have hz : ¬ (m : Int) < (m : Int) := by omega
        have k3 : (0 : Int) ≤ (k : Int) := by omega
        have k4 : (k : Int) ≤ (m : Int) := by omega
        have k5 : (k : Int) ≤ (c : Int) := by omega
        have hcl : ∀ ty, (Builtin.clear_ #[70] ty #[.slice (some ⟨g, k * 4, none⟩) (m - k) (c - k)]).run Try.prog wr = .ok (.tuple #[]) (wr.setCells g (k * 4) (Builtin.zeroCells #[.int .i64 0, .int .i64 0, .int .i64 0, .int .i64 0] (m - k)).toList) :=
          fun ty => run_clear_four wr _ _ ty Try.underlying70 Try.zeroValue79 g (k * 4) (m - k) (c - k) (by omega) (fun j hj => (HR2.out.any (k * 4 + j) (by omega)).1) (fun j hj => HR2.out.froz (k * 4 + j))
        go_wp2_with fail
        go_ret
        have hlen : (keepL p l).length = k := by rw [← HK.out]; exact HH.out.len
        refine ⟨by rw [hlen]; rfl, HR2.out.setCells k _ fun j x hx => ?_, only_setCells _ _ HG⟩
        have hj : j < k := by rw [← hlen]; exact (List.getElem?_eq_some_iff.1 hx).1
        refine ⟨.inl ?_, hj⟩
        rw [HK.out]; exact hx
end Go.Proofs.Ytmeldgnjgogacaa.Re
