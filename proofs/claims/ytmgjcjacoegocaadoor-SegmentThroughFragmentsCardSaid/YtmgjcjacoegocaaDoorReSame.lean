/-
  Rows of packets; equality of packets; the contract of the reference's Same.
-/
import Derived.Test.YtmgjcjacoegocaaDoorRows
import Derived.Test.YtmgjcjacoegocaaDoorPkM
import Derived.Test.YtmgjcjacoegocaaDoorBase1
import Derived.Laws.StructEq
import Derived.RegionTactic
import Derived.LoopTactic
import Derived.Deep.Cut
import Derived.Deep.DeepCutAuto
import Derived.BigQuiet
import Derived.WalkMore
import Derived.WalkKit
namespace Go.Proofs.YtmgjcjacoegocaaDoor.Re
set_option maxRecDepth 100000
open Go.RowKit Go.Proofs.YtmgjcjacoegocaaDoor.Wire
open Go.Proofs.YtmgjcjacoegocaaDoor.Ip (Pk)

def pkEqB (p q : Pk) : Bool := p.f == q.f && p.t == q.t && p.pr == q.pr && p.ttl == q.ttl && p.id == q.id && p.df == q.df && p.mf == q.mf && p.off == q.off && p.s.toList == q.s.toList
theorem pkEqB_iff (p q : Pk) : pkEqB p q = true ↔ p = q := by
  obtain ⟨f, t, pr, ttl, id, df, mf, off, s⟩ := p
  obtain ⟨f', t', pr', ttl', id', df', mf', off', s'⟩ := q
  simp only [pkEqB, Bool.and_eq_true, beq_iff_eq, Pk.mk.injEq]
  constructor
  · rintro ⟨⟨⟨⟨⟨⟨⟨⟨a, b⟩, c⟩, d⟩, e⟩, g⟩, h⟩, i⟩, j⟩
    refine ⟨a, b, c, d, e, g, h, i, ?_⟩
    rw [ByteArray.toList_eq, ByteArray.toList_eq] at j
    exact ByteArray.ext (Array.ext' j)
  · rintro ⟨a, b, c, d, e, g, h, i, j⟩
    exact ⟨⟨⟨⟨⟨⟨⟨⟨a, b⟩, c⟩, d⟩, e⟩, g⟩, h⟩, i⟩, by rw [j]⟩
instance : DecidableEq Pk := fun p q => decidable_of_iff (pkEqB p q = true) (pkEqB_iff p q)
set_option maxHeartbeats 1000000 in
theorem eqPk (p q : Pk) : ∀ w : World, (Op.equalIn 10000 83 (.agg #[.int .i64 p.f, .int .i64 p.t, .int .i64 p.pr, .int .i64 p.ttl, .int .i64 p.id, .bool p.df, .bool p.mf, .int .i64 p.off, .string p.s]) (.agg #[.int .i64 q.f, .int .i64 q.t, .int .i64 q.pr, .int .i64 q.ttl, .int .i64 q.id, .bool q.df, .bool q.mf, .int .i64 q.off, .string q.s])).run Tryd.prog w = .ok (pkEqB p q) w := by
  intro w
  unfold pkEqB
  go_simp
  by_cases h0 : p.f = q.f
  case neg => rw [if_neg h0]; simp [h0]
  rw [if_pos h0]
  by_cases h1 : p.t = q.t
  case neg => rw [if_neg h1]; simp [h1]
  rw [if_pos h1]
  by_cases h2 : p.pr = q.pr
  case neg => rw [if_neg h2]; simp [h2]
  rw [if_pos h2]
  by_cases h3 : p.ttl = q.ttl
  case neg => rw [if_neg h3]; simp [h3]
  rw [if_pos h3]
  by_cases h4 : p.id = q.id
  case neg => rw [if_neg h4]; simp [h4]
  rw [if_pos h4]
  by_cases h5 : p.df = q.df
  case neg => rw [if_neg h5]; simp [h5]
  rw [if_pos h5]
  by_cases h6 : p.mf = q.mf
  case neg => rw [if_neg h6]; simp [h6]
  rw [if_pos h6]
  by_cases h7 : p.off = q.off
  case neg => rw [if_neg h7]; simp [h7]
  rw [if_pos h7]
  by_cases h8 : p.s.toList = q.s.toList
  case neg => rw [if_neg h8]; simp [h8]
  rw [if_pos h8]
  simp [h0, h1, h2, h3, h4, h5, h6, h7, h8]
theorem below_drewN {n : Nat} {a w : World} (h : Below n a w) (k : Nat) : Below n a (w.drewN k) := ⟨h.os, h.tape, h.output, h.size, h.block⟩
def pkC (l : List Pk) : List Value := l.flatMap fun p => [.int .i64 p.f, .int .i64 p.t, .int .i64 p.pr, .int .i64 p.ttl, .int .i64 p.id, .bool p.df, .bool p.mf, .int .i64 p.off, .string p.s]
theorem pkC_length (l : List Pk) : (pkC l).length = l.length * 9 := by
  unfold pkC
  induction l with
  | nil => rfl
  | cons a l ih => simp [ih]; omega
theorem pkC_at : ∀ (l : List Pk) (i r : Nat) (p : Pk), l[i]? = some p → r < 9 → (pkC l)[i * 9 + r]? = ([.int .i64 p.f, .int .i64 p.t, .int .i64 p.pr, .int .i64 p.ttl, .int .i64 p.id, .bool p.df, .bool p.mf, .int .i64 p.off, .string p.s] : List Value)[r]?
  | [], i, r, p, h, _ => by simp at h
  | x :: l, 0, r, p, h, hr => by
    simp at h; subst h
    show (([.int .i64 x.f, .int .i64 x.t, .int .i64 x.pr, .int .i64 x.ttl, .int .i64 x.id, .bool x.df, .bool x.mf, .int .i64 x.off, .string x.s] : List Value) ++ pkC l)[0 * 9 + r]? = _
    rw [List.getElem?_append_left (by simp; omega)]; simp
  | x :: l, i + 1, r, p, h, hr => by
    show (([.int .i64 x.f, .int .i64 x.t, .int .i64 x.pr, .int .i64 x.ttl, .int .i64 x.id, .bool x.df, .bool x.mf, .int .i64 x.off, .string x.s] : List Value) ++ pkC l)[(i + 1) * 9 + r]? = _
    rw [List.getElem?_append_right (by simp; omega)]
    have e : (i + 1) * 9 + r - ([.int .i64 x.f, .int .i64 x.t, .int .i64 x.pr, .int .i64 x.ttl, .int .i64 x.id, .bool x.df, .bool x.mf, .int .i64 x.off, .string x.s] : List Value).length = i * 9 + r := by simp; omega
    rw [e]
    exact pkC_at l i r p (by simpa using h) hr
def PRow (W : World) (lo : Nat) (A : Option Addr) (c : Nat) (l : List Pk) : Prop := W.ownsRow lo 83 9 (.slice A l.length c) l.length (pkC l)
theorem PRow.addr {W : World} {lo : Nat} {A : Option Addr} {c : Nat} {l : List Pk} (h : PRow W lo A c l) (hl : 0 < l.length) : ∃ g, A = some ⟨g, 0, none⟩ ∧ lo ≤ g := by
  rcases h.2 with ⟨e, h0⟩ | ⟨g, cap, cur, e, h1, -⟩
  · omega
  · injection e with e1 e2 e3
    exact ⟨g, e1, h1⟩
theorem PRow.cells {W : World} {lo g c : Nat} {l : List Pk} (h : PRow W lo (some ⟨g, 0, none⟩) c l) {i : Nat} {p : Pk} (hi : l[i]? = some p) :
    W.cell? ⟨g, i * 9, none⟩ = some (.int .i64 p.f) ∧ W.cell? ⟨g, i * 9 + 1, none⟩ = some (.int .i64 p.t) ∧ W.cell? ⟨g, i * 9 + 2, none⟩ = some (.int .i64 p.pr) ∧ W.cell? ⟨g, i * 9 + 3, none⟩ = some (.int .i64 p.ttl) ∧ W.cell? ⟨g, i * 9 + 4, none⟩ = some (.int .i64 p.id) ∧ W.cell? ⟨g, i * 9 + 5, none⟩ = some (.bool p.df) ∧ W.cell? ⟨g, i * 9 + 6, none⟩ = some (.bool p.mf) ∧ W.cell? ⟨g, i * 9 + 7, none⟩ = some (.int .i64 p.off) ∧ W.cell? ⟨g, i * 9 + 8, none⟩ = some (.string p.s) := by
  have hc : ∀ r u, r < 9 → ([.int .i64 p.f, .int .i64 p.t, .int .i64 p.pr, .int .i64 p.ttl, .int .i64 p.id, .bool p.df, .bool p.mf, .int .i64 p.off, .string p.s] : List Value)[r]? = some u → W.cell? ⟨g, i * 9 + r, none⟩ = some u := fun r u hr hu => by
    have := World.ownsRow.cells h rfl (i * 9 + r) u (by rw [pkC_at l i r p hi hr]; exact hu)
    have e : (⟨g, 0, none⟩ : Addr).add (i * 9 + r) = ⟨g, i * 9 + r, none⟩ := by unfold Addr.add; split <;> simp_all
    rw [e] at this; exact this
  exact ⟨hc 0 _ (by omega) rfl, hc 1 _ (by omega) rfl, hc 2 _ (by omega) rfl, hc 3 _ (by omega) rfl, hc 4 _ (by omega) rfl, hc 5 _ (by omega) rfl, hc 6 _ (by omega) rfl, hc 7 _ (by omega) rfl, hc 8 _ (by omega) rfl⟩
theorem PRow.kept {W W' : World} {lo : Nat} {A : Option Addr} {c : Nat} {l : List Pk} (h : PRow W lo A c l) (hk : ∀ a, A = some a → W'.heap[a.block]? = W.heap[a.block]?) : PRow W' lo A c l := by
  refine ⟨h.1, ?_⟩
  rcases h.2 with q | ⟨g, cap, cur, e, q1, q2, q3⟩
  · exact .inl q
  · injection e with e1 e2 e3
    subst e1
    exact .inr ⟨g, cap, cur, by rw [e3], q1, (hk _ rfl).trans q2, q3⟩
theorem PRow.lt {W : World} {lo : Nat} {a : Addr} {c : Nat} {l : List Pk} (h : PRow W lo (some a) c l) : a.block < W.heap.size := by
  rcases h.2 with ⟨e, h0⟩ | ⟨g, cap, cur, e, q1, q2, q3⟩
  · cases e
  · injection e with e1 e2 e3
    cases e1
    exact blk_lt q2
theorem PRow.below {W W' : World} {lo : Nat} {A : Option Addr} {c : Nat} {l : List Pk} (h : PRow W lo A c l) (hb : Below W.heap.size W W') : PRow W' lo A c l := h.kept fun a e => by subst e; exact hb.block _ h.lt
theorem PRow.nil (W : World) (lo : Nat) : PRow W lo none 0 [] := ⟨rfl, .inl ⟨rfl, rfl⟩⟩
end Go.Proofs.YtmgjcjacoegocaaDoor.Re
