/-
  Rows of structs in memory, for any encoding of the elements; append onto them. No program in sight.
-/
import Derived.Test.YtmgjcjacoegocaaDoorBase1
import Derived.Test.YtmgjcjacoegocaaDoorOff
import Derived.Deep.AppendLies
import Derived.OwnWalk
namespace Go.Proofs.YtmgjcjacoegocaaDoor.Rw
set_option maxRecDepth 100000
open Go.RowKit Go.Proofs.YtmgjcjacoegocaaDoor.Wire

section
variable {α : Type}
theorem encs_length (k : Nat) (enc : α → List Value) (hk : ∀ x, (enc x).length = k) (l : List α) : (l.flatMap enc).length = l.length * k := by
  induction l with
  | nil => simp
  | cons a l ih => simp [ih, hk, Nat.succ_mul]; omega
theorem encs_at (k : Nat) (enc : α → List Value) (hk : ∀ x, (enc x).length = k) : ∀ (l : List α) (i r : Nat) (x : α), l[i]? = some x → r < k → (l.flatMap enc)[i * k + r]? = (enc x)[r]?
  | [], i, r, x, h, _ => by simp at h
  | y :: l, 0, r, x, h, hr => by
    simp at h; subst h
    rw [List.flatMap_cons, List.getElem?_append_left (by rw [hk]; omega)]; simp
  | y :: l, i + 1, r, x, h, hr => by
    rw [List.flatMap_cons, List.getElem?_append_right (by rw [hk, Nat.succ_mul]; omega)]
    have e : (i + 1) * k + r - (enc y).length = i * k + r := by rw [hk, Nat.succ_mul]; omega
    rw [e]
    exact encs_at k enc hk l i r x (by simpa using h) hr
/-- a row of elements of k cells each -/
def SRow (T : TypeId) (k : Nat) (enc : α → List Value) (W : World) (lo : Nat) (A : Option Addr) (c : Nat) (l : List α) : Prop := W.ownsRow lo T k (.slice A l.length c) l.length (l.flatMap enc)
variable {T : TypeId} {k : Nat} {enc : α → List Value} {W W' : World} {lo : Nat} {A : Option Addr} {c : Nat} {l : List α}
theorem SRow.addr (h : SRow T k enc W lo A c l) (hl : 0 < l.length) : ∃ g, A = some ⟨g, 0, none⟩ ∧ lo ≤ g := by
  rcases h.2 with ⟨e, h0⟩ | ⟨g, cap, cur, e, h1, -⟩
  · omega
  · injection e with e1 e2 e3
    exact ⟨g, e1, h1⟩
theorem SRow.cell (h : SRow T k enc W lo A c l) (hk : ∀ x, (enc x).length = k) {g : Nat} (hA : A = some ⟨g, 0, none⟩) {i : Nat} {x : α} (hi : l[i]? = some x) {r : Nat} {u : Value} (hr : r < k) (hu : (enc x)[r]? = some u) : W.cell? ⟨g, i * k + r, none⟩ = some u := by
  subst hA
  have := World.ownsRow.cells h rfl (i * k + r) u (by rw [encs_at k enc hk l i r x hi hr]; exact hu)
  have e : (⟨g, 0, none⟩ : Addr).add (i * k + r) = ⟨g, i * k + r, none⟩ := by unfold Addr.add; split <;> simp_all
  rw [e] at this; exact this
theorem SRow.kept (h : SRow T k enc W lo A c l) (hk : ∀ a, A = some a → W'.heap[a.block]? = W.heap[a.block]?) : SRow T k enc W' lo A c l := by
  refine ⟨h.1, ?_⟩
  rcases h.2 with q | ⟨g, cap, cur, e, q1, q2, q3⟩
  · exact .inl q
  · injection e with e1 e2 e3
    subst e1
    exact .inr ⟨g, cap, cur, by rw [e3], q1, (hk _ rfl).trans q2, q3⟩
theorem SRow.bk (h : SRow T k enc W lo A c l) {a : Addr} (e : A = some a) : lo ≤ a.block ∧ a.block < W.heap.size := by
  rcases h.2 with ⟨q, -⟩ | ⟨g, cap, cur, q, q1, q2, -⟩
  · injection q with q1; rw [q1] at e; cases e
  · injection q with q3; rw [q3] at e; cases e; exact ⟨q1, blk_lt q2⟩
theorem SRow.below (h : SRow T k enc W lo A c l) (hb : Below W.heap.size W W') : SRow T k enc W' lo A c l := h.kept fun _ e => hb.block _ (h.bk e).2
theorem SRow.mono (h : SRow T k enc W lo A c l) {lo' : Nat} (hl : lo' ≤ lo) : SRow T k enc W lo' A c l := by
  refine ⟨h.1, ?_⟩
  rcases h.2 with q | ⟨g, cap, cur, e, q1, q2⟩
  · exact .inl q
  · exact .inr ⟨g, cap, cur, e, Nat.le_trans hl q1, q2⟩
theorem SRow.nil (T : TypeId) (k : Nat) (enc : α → List Value) (W : World) (lo : Nat) : SRow T k enc W lo none 0 [] := ⟨by simp, .inl ⟨rfl, rfl⟩⟩
theorem SRow.cap (h : SRow T k enc W lo A c l) : l.length ≤ c := by
  rcases h.2 with ⟨e, h0⟩ | ⟨g, cap, cur, e, q1, q2, q3, q4, q5, q6⟩
  · omega
  · injection e with e1 e2 e3; omega
/-- a new block that holds the row -/
theorem SRow.new {g : Nat} (hlo : lo ≤ g) (hk : ∀ x, (enc x).length = k) {cur : Array Value} (h : W.heap[g]? = some (.cells cur T (0, 0))) (e : cur.toList = l.flatMap enc) (hl : l.length ≤ maxLen) : SRow T k enc W lo (some ⟨g, 0, none⟩) l.length l := by
  have hs : cur.size = l.length * k := by rw [← Array.length_toList, e, encs_length k enc hk]
  exact ⟨encs_length k enc hk l, .inr ⟨g, l.length, cur, rfl, hlo, h, Nat.le_refl _, hl, hs, by rw [← hs, ← Array.length_toList, List.take_length, e]⟩⟩
end
def BK (A : Option Addr) (q : Nat) : Prop := ∃ a, A = some a ∧ a.block = q
theorem ob_bk {D : Option Addr} {n d k : Nat} (e : Value.ownBlock (.slice D n d) = some k) : BK D k := by
  cases D with
  | none => cases e
  | some a => exact ⟨a, rfl, by simpa [Value.ownBlock] using e⟩
theorem SRow.bk' {α : Type} {T : TypeId} {k : Nat} {enc : α → List Value} {W : World} {lo : Nat} {A : Option Addr} {c : Nat} {l : List α} (h : SRow T k enc W lo A c l) {q : Nat} (hq : BK A q) : lo ≤ q ∧ q < W.heap.size := by
  obtain ⟨a, e, rfl⟩ := hq
  exact h.bk e
theorem bk_none (q : Nat) : ¬ BK none q := fun ⟨_, e, _⟩ => by cases e
/-- an empty slice is appended -/
theorem app_none {P : Program} (W : World) (t ty e : TypeId) (i : TypeInfo) (ht : P.underlying t = some (.slice e)) (hi : P.info? e = some i) (A B : Option Addr) (n c m d : Nat) (hn : n ≤ c) (hm : m = 0) :
    (Builtin.append_ #[t, t] ty #[.slice A n c, .slice B m d]).run P W = .ok (.slice A n c) W := by
  subst hm
  cases A <;> cases B <;> simp [Builtin.append_, run_underlying ht, sizeOf, typeInfo, hi, hn, Builtin.firstCells, Builtin.lenOf, loadCells, storeCells, loadCellsFrom]
section
variable {P : Program} {α : Type} {T : TypeId} {k : Nat} {enc : α → List Value} {W : World} {lo : Nat} {A : Option Addr} {c : Nat} {l : List α}
/-- append of a list whose cells lie somewhere, or of none -/
theorem SRow.append (h : SRow T k enc W lo A c l) (hk : ∀ x, (enc x).length = k) (t ty : TypeId) (i : TypeInfo) (z : Value) (bytes : Nat) (ht : P.underlying t = some (.slice T)) (hi : P.info? T = some i) (hz : i.zero = some z) (hs : i.size = k) (hb : i.bytes = bytes) (hzs : z.cells.size = k) (h0 : 0 < k) (B : Option Addr) (m d : Nat) (xs : List α) (hm : xs.length = m)
    (hB : 0 < m → ∃ ad, B = some ad ∧ ∀ j u, (xs.flatMap enc)[j]? = some u → W.cell? (ad.add j) = some u) (h1 : ∀ u ∈ xs.flatMap enc, u.oneCell' = true) (h63 : l.length + m ≤ maxLen) (hbytes : (l.length + m) * bytes ≤ 140737488355328) (hlo : lo ≤ W.heap.size) :
    ∃ A' c' W', (Builtin.append_ #[t, t] ty #[.slice A l.length c, .slice B m d]).run P W = .ok (.slice A' (l.length + m) c') W' ∧ SRow T k enc W' lo A' c' (l ++ xs) ∧ W.grownBy W' (Value.ownBlock (.slice A l.length c)) ∧ ∀ q, BK A' q → (BK A q ∨ W.heap.size ≤ q) := by
  by_cases hm0 : m = 0
  · subst hm0
    obtain rfl : xs = [] := List.eq_nil_of_length_eq_zero hm
    have hc : l.length ≤ c := h.cap
    refine ⟨A, c, W, app_none (P := P) W t ty T i ht hi A B l.length c 0 d hc rfl, by rw [List.append_nil]; exact h, ⟨rfl, rfl, rfl, Nat.le_refl _, fun _ _ _ => rfl⟩, fun q hq => .inl hq⟩
  · obtain ⟨ad, rfl, hnews⟩ := hB (by omega)
    have hl : (xs.flatMap enc).length = m * k := by rw [encs_length k enc hk, hm]
    obtain ⟨g, cap, w', hr, h2, h3, h4, h5⟩ := run_append_lies (P := P) W t ty lo T i z k bytes ht hi hz hs hb hzs h0 (.slice A l.length c) l.length _ h ad m d (xs.flatMap enc) hl hnews h1 (by omega) h63 hbytes hlo W.heap.size rfl
    refine ⟨some ⟨g, 0, none⟩, cap, w', hr, ?_, h3, fun q hq => ?_⟩
    · unfold SRow
      rw [List.length_append, hm, List.flatMap_append]; exact h2
    · obtain ⟨a, e, rfl⟩ := hq
      cases e
      rcases h4 with h4 | h4
      · left
        cases A with
        | none => simp [Value.ownBlock] at h4
        | some b => exact ⟨b, rfl, by simpa [Value.ownBlock] using h4⟩
      · right; show W.heap.size ≤ g; omega
/-- at an operation of a region that draws its order -/
theorem step_app {ops : Array Oper} {o : Oper} {a : Act} {K : Act → World → Prop} {Q : Exit → Act → World → Prop} {E : Prop} (hgd : o.guard = none) (s x : Operand) (t : TypeId)
    (ho : o.op = .call { callee := .builtin .append, args := #[s, x], argTypes := #[t, t] })
    (h : SRow T k enc W lo A c l) (hk : ∀ x, (enc x).length = k) (i : TypeInfo) (z : Value) (bytes : Nat) (ht : P.underlying t = some (.slice T)) (hi : P.info? T = some i) (hz : i.zero = some z) (hs : i.size = k) (hb : i.bytes = bytes) (hzs : z.cells.size = k) (h0 : 0 < k) (n : Nat) (hn : l.length = n) (B : Option Addr) (m d : Nat) (xs : List α) (hsv : a.eval s = .slice A n c) (hx : a.eval x = .slice B m d) (hm : xs.length = m)
    (hB : 0 < m → ∃ ad, B = some ad ∧ ∀ j u, (xs.flatMap enc)[j]? = some u → W.cell? (ad.add j) = some u) (h1 : ∀ u ∈ xs.flatMap enc, u.oneCell' = true) (h63 : n + m ≤ maxLen) (hbytes : (n + m) * bytes ≤ 140737488355328) (hlo : lo ≤ W.heap.size)
    (hK : ∀ A' c' W', SRow T k enc W' lo A' c' (l ++ xs) → W.grownBy W' (Value.ownBlock (.slice A n c)) → (∀ q, BK A' q → (BK A q ∨ W.heap.size ≤ q)) → K (a.put o.dst (.slice A' (n + m) c')) W') :
    if Region.wanted o (yielded ops a.tmps) = true then Oper.wp P o a W K Q else E := by
  subst hn
  have hw : Region.wanted o (yielded ops a.tmps) = true := by simp [Region.wanted, hgd]
  rw [if_pos hw]
  obtain ⟨A', c', W', hr, h2, h3, h4⟩ := h.append (P := P) hk t o.type i z bytes ht hi hz hs hb hzs h0 B m d xs hm hB h1 h63 hbytes hlo
  unfold Oper.wp execOp
  simp only [ho, resolve, invoke, builtin, Sem.run_bind, Sem.run_pure, Result.andThen_ok, List.map_toArray, List.map_cons, List.map_nil, hsv, hx, hr]
  exact hK A' c' W' h2 h3 h4
/-- at an operation of a plain region -/
theorem list_app {ops : Array Oper} {rest : List Oper} {o : Oper} {a : Act} {Q : Exit → Act → World → Prop} (hgd : o.guard = none) (s x : Operand) (t : TypeId)
    (ho : o.op = .call { callee := .builtin .append, args := #[s, x], argTypes := #[t, t] })
    (h : SRow T k enc W lo A c l) (hk : ∀ x, (enc x).length = k) (i : TypeInfo) (z : Value) (bytes : Nat) (ht : P.underlying t = some (.slice T)) (hi : P.info? T = some i) (hz : i.zero = some z) (hs : i.size = k) (hb : i.bytes = bytes) (hzs : z.cells.size = k) (h0 : 0 < k) (n : Nat) (hn : l.length = n) (B : Option Addr) (m d : Nat) (xs : List α) (hsv : a.eval s = .slice A n c) (hx : a.eval x = .slice B m d) (hm : xs.length = m)
    (hB : 0 < m → ∃ ad, B = some ad ∧ ∀ j u, (xs.flatMap enc)[j]? = some u → W.cell? (ad.add j) = some u) (h1 : ∀ u ∈ xs.flatMap enc, u.oneCell' = true) (h63 : n + m ≤ maxLen) (hbytes : (n + m) * bytes ≤ 140737488355328) (hlo : lo ≤ W.heap.size)
    (hK : ∀ A' c' W', SRow T k enc W' lo A' c' (l ++ xs) → W.grownBy W' (Value.ownBlock (.slice A n c)) → (∀ q, BK A' q → (BK A q ∨ W.heap.size ≤ q)) → wpList P ops Q rest (a.put o.dst (.slice A' (n + m) c')) W') :
    wpList P ops Q (o :: rest) a W := by
  subst hn
  refine wpList_plain hgd fun K2 hK2 => ?_
  obtain ⟨A', c', W', hr, h2, h3, h4⟩ := h.append (P := P) hk t o.type i z bytes ht hi hz hs hb hzs h0 B m d xs hm hB h1 h63 hbytes hlo
  unfold Oper.wp execOp
  simp only [ho, resolve, invoke, builtin, Sem.run_bind, Sem.run_pure, Result.andThen_ok, List.map_toArray, List.map_cons, List.map_nil, hsv, hx, hr]
  exact hK2 _ _ (hK A' c' W' h2 h3 h4)
end
theorem orow_lies {α : Type} {T : TypeId} {k : Nat} {enc : α → List Value} {W : World} {lo : Nat} {A : Option Addr} {c : Nat} {l : List α} (h : ORow T k enc W lo A c l) (h0 : 0 < l.length) : ∃ ad, A = some ad ∧ ∀ j u, (l.flatMap enc)[j]? = some u → W.cell? (ad.add j) = some u := by
  rcases h with ⟨-, rfl, -⟩ | ⟨g, off, cur, rfl, -, h2, -, -, -, h6⟩
  · simp at h0
  · refine ⟨_, rfl, fun j u hu => ?_⟩
    rw [Addr.add_lit]
    exact (cell_of_block h2 (h6 j u hu)).1
theorem orow_ofS {α : Type} {T : TypeId} {k : Nat} {enc : α → List Value} {W : World} {lo : Nat} {A : Option Addr} {c : Nat} {l : List α} (h : SRow T k enc W lo A c l) : ORow T k enc W lo A c l := by
  rcases h.2 with ⟨h1, h2⟩ | ⟨g, cap, cur, hv, hb, hg, hnc, hcm, hcs, htake⟩
  · simp only [Value.slice.injEq] at h1
    obtain ⟨rfl, h3, rfl⟩ := h1
    exact .inl ⟨rfl, List.eq_nil_of_length_eq_zero h3, rfl⟩
  · simp only [Value.slice.injEq] at hv
    obtain ⟨rfl, -, rfl⟩ := hv
    refine .inr ⟨g, 0, cur, rfl, hb, hg, hnc, hcm, by omega, fun j u hu => ?_⟩
    have hl := (List.getElem?_eq_some_iff.1 hu).1
    rw [← htake, List.getElem?_take] at hu
    split at hu
    · simpa using hu
    · cases hu
theorem orow_mono {α : Type} {T : TypeId} {k : Nat} {enc : α → List Value} {W : World} {lo lo' : Nat} {A : Option Addr} {c : Nat} {l : List α} (h : ORow T k enc W lo A c l) (hl : lo' ≤ lo) : ORow T k enc W lo' A c l := by
  rcases h with h | ⟨g, off, cur, h1, h2, h3⟩
  · exact .inl h
  · exact .inr ⟨g, off, cur, h1, by omega, h3⟩
/-- append onto a row that begins anywhere in its block -/
theorem list_oapp {P : Program} {α : Type} {T : TypeId} {k : Nat} {enc : α → List Value} {W : World} {lo : Nat} {A : Option Addr} {c : Nat} {l : List α} {ops : Array Oper} {rest : List Oper} {o : Oper} {a : Act} {Q : Exit → Act → World → Prop} (hgd : o.guard = none) (s x : Operand) (t : TypeId)
    (ho : o.op = .call { callee := .builtin .append, args := #[s, x], argTypes := #[t, t] })
    (h : ORow T k enc W lo A c l) (hk : ∀ x, (enc x).length = k) (i : TypeInfo) (z : Value) (bytes : Nat) (ht : P.underlying t = some (.slice T)) (hi : P.info? T = some i) (hz : i.zero = some z) (hs : i.size = k) (hb : i.bytes = bytes) (hzs : z.cells.size = k) (n : Nat) (hn : l.length = n) (ad : Addr) (m d : Nat) (xs : List α) (hsv : a.eval s = .slice A n c) (hx : a.eval x = .slice (some ad) m d) (hm : xs.length = m) (hm0 : 0 < m)
    (hB : ∀ j u, (xs.flatMap enc)[j]? = some u → W.cell? (ad.add j) = some u) (h1 : ∀ u ∈ xs.flatMap enc, u.oneCell' = true) (h63 : n + m ≤ maxLen) (hbytes : (n + m) * bytes ≤ 140737488355328) (hlo : lo ≤ W.heap.size)
    (hK : ∀ A' c' W', ORow T k enc W' lo A' c' (l ++ xs) → W.grownBy W' (A.map (·.block)) → (∀ q, BK A' q → (BK A q ∨ W.heap.size ≤ q)) → wpList P ops Q rest (a.put o.dst (.slice A' (n + m) c')) W') :
    wpList P ops Q (o :: rest) a W := by
  subst hn
  refine wpList_plain hgd fun K2 hK2 => ?_
  obtain ⟨A', c', W', hr, h2, h3, h4⟩ := h.append (P := P) hk t o.type i z bytes ht hi hz hs hb hzs ad m d xs hm hm0 hB h1 h63 hbytes hlo
  unfold Oper.wp execOp
  simp only [ho, resolve, invoke, builtin, Sem.run_bind, Sem.run_pure, Result.andThen_ok, List.map_toArray, List.map_cons, List.map_nil, hsv, hx, hr]
  refine hK2 _ _ (hK A' c' W' h2 h3 (fun q hq => ?_))
  rcases h4 with ⟨h4, -⟩ | h4
  · obtain ⟨b, e, rfl⟩ := hq
    subst e
    left
    cases A with
    | none => simp at h4
    | some a0 => exact ⟨a0, rfl, by simpa using h4.symm⟩
  · rw [h4] at hq
    obtain ⟨b, e, rfl⟩ := hq
    cases e
    exact .inr (Nat.le_refl _)
end Go.Proofs.YtmgjcjacoegocaaDoor.Rw
