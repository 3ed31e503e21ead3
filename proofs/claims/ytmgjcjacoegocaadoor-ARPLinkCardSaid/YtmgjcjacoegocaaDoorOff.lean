/-
  Rows that begin anywhere in their block (s[1:]), and append onto them. No program in sight.
-/
import Derived.Test.YtmgjcjacoegocaaDoorBase1
import Derived.ArgAppend
import Derived.Deep.AppendLies
import Derived.OwnWalk
namespace Go.Proofs.YtmgjcjacoegocaaDoor.Wire
set_option maxRecDepth 100000
open Go.RowKit

/-- a block behind a row of stores -/
theorem block_setCells (b : Nat) (T : TypeId) (fr : Nat × Nat) : ∀ (vs : List Value) (o : Nat) (W : World) (cur : Array Value), W.heap[b]? = some (.cells cur T fr) → o + vs.length ≤ cur.size →
    ∃ cur' : Array Value, (W.setCells b o vs).heap[b]? = some (.cells cur' T fr) ∧ cur'.size = cur.size ∧ (∀ i, (i < o ∨ o + vs.length ≤ i) → cur'[i]? = cur[i]?) ∧ ∀ j v, vs[j]? = some v → cur'[o + j]? = some v
  | [], o, W, cur, h, _ => ⟨cur, h, rfl, fun _ _ => rfl, fun j v hv => by simp at hv⟩
  | v :: vs, o, W, cur, h, hl => by
    rw [List.length_cons] at hl
    have h1 : (W.setCell ⟨b, o, none⟩ v).heap[b]? = some (.cells (cur.setIfInBounds o v) T fr) := block_setCell h
    obtain ⟨cur', h2, h3, h4, h5⟩ := block_setCells b T fr vs (o + 1) _ _ h1 (by simp; omega)
    refine ⟨cur', h2, by rw [h3]; simp, fun i hi => ?_, fun j u hu => ?_⟩
    · rw [List.length_cons] at hi
      rw [h4 i (by omega), Array.getElem?_setIfInBounds_ne (by omega)]
    · cases j with
      | zero =>
        rw [Nat.add_zero, h4 o (by omega)]
        have e : v = u := by simpa using hu
        rw [← e, Array.getElem?_setIfInBounds_self_of_lt (by omega)]
      | succ j =>
        have := h5 j u (by simpa using hu)
        rw [show o + (j + 1) = o + 1 + j by omega]; exact this
theorem setCells_same (b : Nat) : ∀ (vs : List Value) (o : Nat) (W : World), (W.setCells b o vs).os = W.os ∧ (W.setCells b o vs).tape = W.tape ∧ (W.setCells b o vs).output = W.output ∧ (W.setCells b o vs).heap.size = W.heap.size ∧ ∀ q, q ≠ b → (W.setCells b o vs).heap[q]? = W.heap[q]?
  | [], _, _ => ⟨rfl, rfl, rfl, rfl, fun _ _ => rfl⟩
  | v :: vs, o, W => by
    obtain ⟨h1, h2, h3, h4, h5⟩ := setCells_same b vs (o + 1) (W.setCell ⟨b, o, none⟩ v)
    refine ⟨h1, h2, h3, ?_, fun q hq => (h5 q hq).trans (Below.heap_setCell _ _ _ _ (by exact hq))⟩
    refine h4.trans ?_
    simp [World.setCell]
section
variable {α : Type}
/-- a row of elements of k cells each, anywhere in its block -/
def ORow (T : TypeId) (k : Nat) (enc : α → List Value) (W : World) (lo : Nat) (A : Option Addr) (c : Nat) (l : List α) : Prop :=
  (A = none ∧ l = [] ∧ c = 0) ∨ ∃ g off cur, A = some ⟨g, off, none⟩ ∧ lo ≤ g ∧ W.heap[g]? = some (.cells cur T (0, 0)) ∧ l.length ≤ c ∧ c ≤ maxLen ∧ off + c * k ≤ cur.size ∧ ∀ j u, (l.flatMap enc)[j]? = some u → cur[off + j]? = some u
variable {T : TypeId} {k : Nat} {enc : α → List Value} {W W' : World} {lo : Nat} {A : Option Addr} {c : Nat} {l : List α}
theorem ORow.nil (T : TypeId) (k : Nat) (enc : α → List Value) (W : World) (lo : Nat) : ORow T k enc W lo none 0 [] := .inl ⟨rfl, rfl, rfl⟩
theorem ORow.kept (h : ORow T k enc W lo A c l) (hk : ∀ a, A = some a → W'.heap[a.block]? = W.heap[a.block]?) : ORow T k enc W' lo A c l := by
  rcases h with h | ⟨g, off, cur, e, h1, h2, h3⟩
  · exact .inl h
  · exact .inr ⟨g, off, cur, e, h1, (hk _ e).trans h2, h3⟩
theorem ORow.bk (h : ORow T k enc W lo A c l) {a : Addr} (e : A = some a) : lo ≤ a.block ∧ a.block < W.heap.size := by
  rcases h with ⟨h, -⟩ | ⟨g, off, cur, q, h1, h2, -⟩
  · rw [h] at e; cases e
  · rw [q] at e; cases e; exact ⟨h1, blk_lt h2⟩
theorem ORow.cap (h : ORow T k enc W lo A c l) : l.length ≤ c := by
  rcases h with ⟨-, h, h2⟩ | ⟨g, off, cur, q, h1, h2, h3, -⟩
  · rw [h]; simp
  · exact h3
theorem ORow.cell (h : ORow T k enc W lo A c l) (hk : ∀ x, (enc x).length = k) {i : Nat} {x : α} (hi : l[i]? = some x) {r : Nat} {u : Value} (hr : r < k) (hu : (enc x)[r]? = some u) : ∃ g off, A = some ⟨g, off, none⟩ ∧ W.cell? ⟨g, off + i * k + r, none⟩ = some u := by
  rcases h with ⟨-, h, -⟩ | ⟨g, off, cur, e, -, h2, -, -, -, h6⟩
  · rw [h] at hi; simp at hi
  · have : ∀ (l : List α) (i : Nat), l[i]? = some x → (l.flatMap enc)[i * k + r]? = some u := by
      intro l
      induction l with
      | nil => intro i hi; simp at hi
      | cons y l ih =>
        intro i hi
        cases i with
        | zero =>
          have e : y = x := by simpa using hi
          subst e
          rw [List.flatMap_cons, List.getElem?_append_left (by rw [hk]; omega)]; simpa using hu
        | succ i =>
          rw [List.flatMap_cons, List.getElem?_append_right (by rw [hk, Nat.succ_mul]; omega)]
          have e : (i + 1) * k + r - (enc y).length = i * k + r := by rw [hk, Nat.succ_mul]; omega
          rw [e]; exact ih i (by simpa using hi)
    have hc := h6 _ u (this l i hi)
    refine ⟨g, off, e, ?_⟩
    rw [show off + i * k + r = off + (i * k + r) by omega]
    exact (cell_of_block h2 hc).1
/-- the row without its first element -/
theorem ORow.tail {x : α} (h : ORow T k enc W lo A c (x :: l)) (hk : ∀ x, (enc x).length = k) {g off : Nat} (hA : A = some ⟨g, off, none⟩) : ORow T k enc W lo (some ⟨g, off + k, none⟩) (c - 1) l := by
  rcases h with ⟨h, -⟩ | ⟨g', off', cur, e, h1, h2, h3, h4, h5, h6⟩
  · rw [h] at hA; cases hA
  · rw [hA] at e
    cases e
    rw [List.length_cons] at h3
    refine .inr ⟨g, off + k, cur, rfl, h1, h2, by omega, by omega, ?_, fun j u hu => ?_⟩
    · obtain ⟨c1, rfl⟩ : ∃ c1, c = c1 + 1 := ⟨c - 1, by omega⟩
      rw [Nat.succ_mul] at h5
      rw [Nat.add_sub_cancel]; omega
    · have := h6 (k + j) u (by rw [List.flatMap_cons, List.getElem?_append_right (by rw [hk]; omega), hk]; rw [Nat.add_sub_cancel_left]; exact hu)
      rw [show off + k + j = off + (k + j) by omega]; exact this
variable {P : Program}
/-- append onto such a row -/
theorem ORow.append (h : ORow T k enc W lo A c l) (hk : ∀ x, (enc x).length = k) (t ty : TypeId) (i : TypeInfo) (z : Value) (bytes : Nat) (ht : P.underlying t = some (.slice T)) (hi : P.info? T = some i) (hz : i.zero = some z) (hs : i.size = k) (hb : i.bytes = bytes) (hzs : z.cells.size = k) (a : Addr) (m cx : Nat) (xs : List α) (hm : xs.length = m) (h0 : 0 < m) (hnews : ∀ j u, (xs.flatMap enc)[j]? = some u → W.cell? (a.add j) = some u) (h1 : ∀ u ∈ xs.flatMap enc, u.oneCell' = true)
    (h63 : l.length + m ≤ maxLen) (hbytes : (l.length + m) * bytes ≤ 140737488355328) (hlo : lo ≤ W.heap.size) :
    ∃ A' c' W', (Builtin.append_ #[t, t] ty #[.slice A l.length c, .slice (some a) m cx]).run P W = .ok (.slice A' (l.length + m) c') W' ∧ ORow T k enc W' lo A' c' (l ++ xs) ∧ W.grownBy W' (A.map (·.block)) ∧ (A'.map (·.block) = A.map (·.block) ∧ A ≠ none ∨ A' = some ⟨W.heap.size, 0, none⟩) := by
  have hlen : ∀ l : List α, (l.flatMap enc).length = l.length * k := by
    intro l
    induction l with
    | nil => simp
    | cons y l ih => rw [List.flatMap_cons, List.length_append, ih, hk, List.length_cons, Nat.succ_mul]; omega
  have hl : (xs.flatMap enc).length = m * i.size := by rw [hlen, hm, hs]
  have hsmall : l.length + m ≤ 9223372036854775807 := by simp only [maxLen] at h63; omega
  rcases h with ⟨rfl, rfl, rfl⟩ | ⟨g, off, cur, rfl, h2, h3, h4, h5, h6, h7⟩
  · have hr := run_append_nil (P := P) W t ty T i z ht hi hz a m cx _ hl hnews h0 (by omega) (by rw [hb]; have hb := hbytes; simp only [List.length_nil, Nat.zero_add] at hb; omega)
    have hge := grownCap_ge W m 0 T
    have hcm : grownCap W m 0 T ≤ maxLen := grownCap_le_maxLen W m 0 T (by simpa using h63)
    refine ⟨_, _, _, by simpa using hr, .inr ⟨W.heap.size, 0, _, rfl, hlo, heap_alloc_new W.drew _, by simpa [hm] using hge, hcm, ?_, fun j u hu => ?_⟩, ⟨rfl, rfl, rfl, by simp, fun k hk _ => _root_.Go.heap_alloc_old W.drew _ hk⟩, .inr rfl⟩
    · simp only [Array.size_append, List.size_toArray, size_zeroCells, hzs, hlen, hm, ← Nat.add_mul, Nat.zero_add]
      rw [Nat.add_sub_cancel' hge]; exact Nat.le_refl _
    · rw [List.nil_append] at hu
      have hj := (List.getElem?_eq_some_iff.1 hu).1
      rw [Nat.zero_add, Array.getElem?_append_left (by simpa using hj)]
      simpa using hu
  · by_cases hroom : l.length + m ≤ c
    · have hfit : off + (l.length + m) * k ≤ cur.size := Nat.le_trans (Nat.add_le_add_left (Nat.mul_le_mul_right _ hroom) _) h6
      rw [Nat.add_mul] at hfit
      have hcell : ∀ j, j < (xs.flatMap enc).length → ∃ u, cur[off + l.length * i.size + j]? = some u := fun j hj => by
        rw [hl, hs] at hj
        exact ⟨_, Array.getElem?_eq_getElem (by rw [hs]; omega)⟩
      have hr := run_append_room_cells (P := P) (w := W) t ty T i ht hi g off l.length c a m cx _ hl hnews h1 hroom (fun j hj => by
          obtain ⟨u, hu⟩ := hcell j hj
          rw [(cell_of_block h3 hu).1]; rfl) (fun j hj => by
          obtain ⟨u, hu⟩ := hcell j hj
          exact (cell_of_block h3 hu).2)
      rw [hs] at hr
      obtain ⟨cur', e1, e2, e3, e4⟩ := block_setCells g T (0, 0) (xs.flatMap enc) (off + l.length * k) W cur h3 (by rw [hl, hs]; omega)
      obtain ⟨k1, k2, k3, k4, k5⟩ := setCells_same g (xs.flatMap enc) (off + l.length * k) W
      refine ⟨_, _, _, hr, .inr ⟨g, off, cur', rfl, h2, e1, by rw [List.length_append, hm]; exact hroom, h5, by rw [e2]; exact h6, fun j u hu => ?_⟩, ⟨k1, k2, k3, by rw [k4]; exact Nat.le_refl _, fun q hq hne => k5 q (fun e => hne (by rw [e]; rfl))⟩, .inl ⟨rfl, by simp⟩⟩
      rw [List.flatMap_append] at hu
      · by_cases hj : j < l.length * k
        · rw [List.getElem?_append_left (by rw [hlen]; exact hj)] at hu
          rw [e3 _ (.inl (by omega))]; exact h7 j u hu
        · rw [List.getElem?_append_right (by rw [hlen]; omega), hlen] at hu
          have := e4 _ u hu
          rw [show off + l.length * k + (j - l.length * k) = off + j by omega] at this
          exact this
    · have holds : ∀ j u, (l.flatMap enc)[j]? = some u → W.cell? ((⟨g, off, none⟩ : Addr).add j) = some u := fun j u hu => by
        rw [Addr.add_lit]; exact (cell_of_block h3 (h7 j u hu)).1
      have hr := run_append_grow (P := P) W t ty T i z ht hi hz ⟨g, off, none⟩ l.length c (l.flatMap enc) (by rw [hlen, hs]) holds a m cx _ hl hnews (by omega) (by omega) (growslice_fits (by omega) (by rw [hb]; exact hbytes))
      have hge := grownCap_ge W (l.length + m) c T
      have hcm : grownCap W (l.length + m) c T ≤ maxLen := grownCap_le_maxLen W (l.length + m) c T h63
      refine ⟨_, _, _, hr, .inr ⟨W.heap.size, 0, _, rfl, hlo, heap_alloc_new W.drew _, by rw [List.length_append, hm]; exact hge, hcm, ?_, fun j u hu => ?_⟩, ⟨rfl, rfl, rfl, by simp, fun k hk _ => _root_.Go.heap_alloc_old W.drew _ hk⟩, .inr rfl⟩
      · simp only [Array.size_append, List.size_toArray, size_zeroCells, hzs, hlen, hm, ← Nat.add_mul, Nat.zero_add]
        rw [Nat.add_sub_cancel' hge]; exact Nat.le_refl _
      · rw [List.flatMap_append] at hu
        have hj := (List.getElem?_eq_some_iff.1 hu).1
        rw [Nat.zero_add, Array.getElem?_append_left (by simpa using hj), List.append_toArray]
        simpa using hu
end
end Go.Proofs.YtmgjcjacoegocaaDoor.Wire
