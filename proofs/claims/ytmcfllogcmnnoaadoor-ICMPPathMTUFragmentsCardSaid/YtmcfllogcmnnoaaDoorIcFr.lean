/-
  What a law uses of Fragment: the row of the fragments, in memory.
-/
import Derived.Test.YtmcfllogcmnnoaaDoorLaw06b
import Derived.Test.YtmcfllogcmnnoaaDoorFragPlain
namespace Go.Proofs.YtmcfllogcmnnoaaDoor.Ip
set_option maxRecDepth 100000
open Go.RowKit Go.Proofs.YtmcfllogcmnnoaaDoor.Wire Go.Proofs.YtmcfllogcmnnoaaDoor.Gen

theorem pkCells_get : ∀ (l : List Pk) (i j : Nat) (p : Pk), l[i]? = some p → j < 9 → (pkCells l)[i * 9 + j]? = p.cells[j]?
  | [], i, j, p, h, _ => by simp at h
  | x :: r, 0, j, p, h, hj => by
    simp only [List.getElem?_cons_zero, Option.some.injEq] at h
    subst h
    have : pkCells (x :: r) = x.cells ++ pkCells r := by simp [pkCells]
    rw [this, Nat.zero_mul, Nat.zero_add, List.getElem?_append_left (by simp [Pk.cells]; omega)]
  | x :: r, i + 1, j, p, h, hj => by
    have : pkCells (x :: r) = x.cells ++ pkCells r := by simp [pkCells]
    have hl : x.cells.length = 9 := rfl
    rw [this, List.getElem?_append_right (by rw [hl]; omega), hl, show (i + 1) * 9 + j - 9 = i * 9 + j from by omega]
    exact pkCells_get r i j p (by simpa using h) hj
/-- block g holds the datagrams l, one behind the other -/
def PkRow (W : World) (g : Nat) (l : List Pk) : Prop := ∃ cur, W.heap[g]? = some (.cells cur 31 (0, 0)) ∧ cur.toList.take (l.length * 9) = pkCells l
theorem PkRow.lt {W : World} {g : Nat} {l : List Pk} (h : PkRow W g l) : g < W.heap.size := by obtain ⟨cur, h, -⟩ := h; exact blk_lt h
theorem PkRow.below {W w1 : World} {g : Nat} {l : List Pk} (hb : Below W.heap.size W w1) (h : PkRow W g l) : PkRow w1 g l := by obtain ⟨cur, h, k⟩ := h; exact ⟨cur, bblock hb h, k⟩
theorem PkRow.alloc {W : World} {g : Nat} {l : List Pk} (h : PkRow W g l) (o : Obj) : PkRow (W.alloc o) g l := by obtain ⟨cur, h, k⟩ := h; exact ⟨cur, block_alloc h o, k⟩
theorem PkRow.drewN {W : World} {g : Nat} {l : List Pk} (h : PkRow W g l) (n : Nat) : PkRow (W.drewN n) g l := h
theorem PkRow.drew {W : World} {g : Nat} {l : List Pk} (h : PkRow W g l) : PkRow W.drew g l := h
theorem PkRow.cell {W : World} {g : Nat} {l : List Pk} (h : PkRow W g l) (i : Nat) (p : Pk) (hp : l[i]? = some p) (j : Nat) (hj : j < 9) : W.cell? ⟨g, i * 9 + j, none⟩ = p.cells[j]? := by
  obtain ⟨cur, h, k⟩ := h
  have hi : i < l.length := by
    rcases Nat.lt_or_ge i l.length with c | c
    · exact c
    · rw [List.getElem?_eq_none c] at hp; cases hp
  rw [← pkCells_get l i j p hp hj, ← k, List.getElem?_take_of_lt (by omega)]
  simp [World.cell?, h]
theorem PkRow.cells {W : World} {g : Nat} {l : List Pk} (h : PkRow W g l) (i : Nat) (p : Pk) (hp : l[i]? = some p) :
    W.cell? ⟨g, i * 9, none⟩ = some (.int .i64 p.f) ∧ W.cell? ⟨g, i * 9 + 1, none⟩ = some (.int .i64 p.t) ∧ W.cell? ⟨g, i * 9 + 2, none⟩ = some (.int .i64 p.pr) ∧ W.cell? ⟨g, i * 9 + 3, none⟩ = some (.int .i64 p.ttl) ∧ W.cell? ⟨g, i * 9 + 4, none⟩ = some (.int .i64 p.id) ∧ W.cell? ⟨g, i * 9 + 5, none⟩ = some (.bool p.df) ∧ W.cell? ⟨g, i * 9 + 6, none⟩ = some (.bool p.mf) ∧ W.cell? ⟨g, i * 9 + 7, none⟩ = some (.int .i64 p.off) ∧ W.cell? ⟨g, i * 9 + 8, none⟩ = some (.string p.s) :=
  ⟨h.cell i p hp 0 (by omega), h.cell i p hp 1 (by omega), h.cell i p hp 2 (by omega), h.cell i p hp 3 (by omega), h.cell i p hp 4 (by omega), h.cell i p hp 5 (by omega), h.cell i p hp 6 (by omega), h.cell i p hp 7 (by omega), h.cell i p hp 8 (by omega)⟩
theorem pkRow_of {W : World} {base : Nat} {v : Value} {l : List Pk} (h : W.ownsRow base 31 9 v l.length (pkCells l)) (hl : 0 < l.length) : ∃ g cap, v = .slice (some ⟨g, 0, none⟩) l.length cap ∧ base ≤ g ∧ PkRow W g l := by
  rcases h.2 with ⟨-, h0⟩ | ⟨g, cap, cur, hv, hb, hg, -, -, -, hk⟩
  · omega
  · exact ⟨g, cap, hv, hb, cur, hg, hk⟩
/-- the datagram p without DF -/
def noDF (p : Pk) : Pk := ⟨p.f, p.t, p.pr, p.ttl, p.id, false, p.mf, p.off, p.s⟩
theorem noDF_ok (p : Pk) (h : p.ok) : (noDF p).ok := by
  unfold Pk.ok VLen at *
  show _ ∧ _ ∧ _ ∧ _ ∧ _ ∧ (false = true → _)
  exact ⟨h.1, h.2.1, h.2.2.1, h.2.2.2.1, h.2.2.2.2.1, fun e => by cases e⟩
/-- Fragment of a valid datagram without DF -/
theorem fragFacts (p : Pk) (hp : p.ok) (hdf : p.df = false) (n : Int) (h : 68 ≤ n) : ∃ l : List Pk, FragSpec p n l ∧
    Hid (∀ w, Calls Tryd.prog 35 #[p.val, .int .i64 n] w fun e w' => (∃ g cap : Nat, e = .returned (.tuple #[.slice (some ⟨g, 0, none⟩) l.length cap, .int .i64 0]) ∧ w.heap.size ≤ g ∧ PkRow w' g l) ∧ Below w.heap.size w w') := by
  have hs : p.s.size ≤ 4000 := by have := hp; unfold Pk.ok VLen at this; omega
  refine ⟨fragList p n, frag_spec p hp hdf n h, Lib.hid fun w => ?_⟩
  refine (Fragment_any p n w (by omega)).mono ?_
  rintro e w' ⟨v, rfl, hrow, hb⟩
  obtain ⟨g, cap, rfl, hg, hr⟩ := pkRow_of hrow (frag_spec p hp hdf n h).pos
  exact ⟨⟨g, cap, by rw [frag_err p hp hdf n h], hg, hr⟩, hb⟩
/-- a fragment of p, by p's fields -/
theorem frag_at {p : Pk} {n : Int} {l : List Pk} (h : FragSpec (noDF p) n l) (i : Nat) (hi : i < l.length) : ∃ (m : Bool) (s : ByteArray),
    l[i]? = some ⟨p.f, p.t, p.pr, p.ttl, p.id, false, m, p.off + (((catP (l.take i)).length : Nat) : Int), s⟩ ∧ Pk.ok ⟨p.f, p.t, p.pr, p.ttl, p.id, false, m, p.off + (((catP (l.take i)).length : Nat) : Int), s⟩ ∧ 20 + (s.size : Int) ≤ n ∧ Hid (m = (p.mf || decide (i + 1 < l.length))) ∧ Hid (catP (l.take (i + 1)) = catP (l.take i) ++ s.data.toList) := by
  have hq : l[i]? = some l[i] := List.getElem?_eq_getElem hi
  obtain ⟨h1, h2, h3, h4, h5⟩ := h.at_ i _ hq
  have hcat : catP (l.take (i + 1)) = catP (l.take i) ++ l[i].s.data.toList := by rw [List.take_succ_eq_append_getElem hi, catP_snoc]
  generalize l[i] = q at *
  obtain ⟨f, t, pr, ttl, id, df, mf, off, s⟩ := q
  simp only [noDF, Pk.mk.injEq] at h5
  obtain ⟨rfl, rfl, rfl, rfl, rfl, rfl, -, -, -⟩ := h5
  dsimp only [noDF] at h2 h3 h4 hcat
  subst h3
  exact ⟨mf, s, hq, h1, h2, Lib.hid h4, Lib.hid hcat⟩
end Go.Proofs.YtmcfllogcmnnoaaDoor.Ip
