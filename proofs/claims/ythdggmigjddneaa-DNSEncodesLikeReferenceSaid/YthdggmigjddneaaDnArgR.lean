/-
  A list of records as an argument.
-/
import Derived.Test.YthdggmigjddneaaDnArg
namespace Go.Proofs.Ythdggmigjddneaa.Dn
set_option maxRecDepth 100000
open Go.RowKit Go.Proofs.Ythdggmigjddneaa.Wire Go.Deep Go.ChangeShapes Go.WideShapes

structure RX where
  nm : ByteArray
  kd : Int
  ttl : Int
  addr : Int
  dst : ByteArray
instance : Inhabited RX := ⟨⟨⟨#[]⟩, 0, 0, 0, ⟨#[]⟩⟩⟩
def RX.ok (x : RX) : Prop := x.nm.size ≤ 9223372036854775807 ∧ (-9223372036854775808 ≤ x.kd ∧ x.kd ≤ 9223372036854775807) ∧ (-9223372036854775808 ≤ x.ttl ∧ x.ttl ≤ 9223372036854775807) ∧ (-9223372036854775808 ≤ x.addr ∧ x.addr ≤ 9223372036854775807) ∧ x.dst.size ≤ 9223372036854775807
/-- the slice at A of k elements came in; it holds the list l -/
def XArg (W : World) (A : Option Addr) (k : Nat) (l : List RX) : Prop :=
  l.length = k ∧ k ≤ maxLen ∧ (∀ x ∈ l, x.ok) ∧ (0 < k → ∃ b o, A = some ⟨b, o, none⟩ ∧ b < W.heap.size ∧ ∀ (i : Nat) (x : RX), l[i]? = some x → W.cell? ⟨b, o + i * 5, none⟩ = some (.string x.nm) ∧ W.cell? ⟨b, o + i * 5 + 1, none⟩ = some (.int .i64 x.kd) ∧ W.cell? ⟨b, o + i * 5 + 2, none⟩ = some (.int .i64 x.ttl) ∧ W.cell? ⟨b, o + i * 5 + 3, none⟩ = some (.int .i64 x.addr) ∧ W.cell? ⟨b, o + i * 5 + 4, none⟩ = some (.string x.dst))
theorem XArg.at_ {W : World} {A : Option Addr} {k : Nat} {l : List RX} (h : XArg W A k l) (i : Nat) (hi : i < k) : ∃ b o x, A = some ⟨b, o, none⟩ ∧ l[i]? = some x ∧ b < W.heap.size ∧ x.ok ∧
    W.cell? ⟨b, o + i * 5, none⟩ = some (.string x.nm) ∧ W.cell? ⟨b, o + i * 5 + 1, none⟩ = some (.int .i64 x.kd) ∧ W.cell? ⟨b, o + i * 5 + 2, none⟩ = some (.int .i64 x.ttl) ∧ W.cell? ⟨b, o + i * 5 + 3, none⟩ = some (.int .i64 x.addr) ∧ W.cell? ⟨b, o + i * 5 + 4, none⟩ = some (.string x.dst) := by
  obtain ⟨hl, -, hin, hx⟩ := h
  obtain ⟨b, o, e, hb, hc⟩ := hx (by omega)
  have hi' : l[i]? = some l[i] := List.getElem?_eq_getElem (by omega)
  exact ⟨b, o, _, e, hi', hb, hin _ (List.getElem_mem _), hc i _ hi'⟩
theorem XArg.below {W W' : World} {A : Option Addr} {k : Nat} {l : List RX} (h : XArg W A k l) (hb : Below W.heap.size W W') : XArg W' A k l := by
  obtain ⟨hl, h2, hin, hx⟩ := h
  refine ⟨hl, h2, hin, fun h0 => ?_⟩
  obtain ⟨b, o, e, hbl, hc⟩ := hx h0
  refine ⟨b, o, e, Nat.lt_of_lt_of_le hbl hb.size, fun i x hi => ?_⟩
  have := hc i x hi
  exact ⟨bcell hb this.1, bcell hb this.2.1, bcell hb this.2.2.1, bcell hb this.2.2.2.1, bcell hb this.2.2.2.2⟩
theorem XArg.size {W : World} {A : Option Addr} {k : Nat} {l : List RX} (h : XArg W A k l) : k ≤ 9223372036854775807 := by have := h.2.1; unfold maxLen at this; omega
theorem open_recs {H : Type} {enc : TypeId × Value → H} {W : World} {n : Nat} {v : Value} {y : DataW H × List MemPlace}
    (h : DataW.trod enc Try.prog W 0 (fun _ => true) true n 25 [v] = some y) : ∃ (A : Option Addr) (k c : Nat) (l : List RX), v = .slice A k c ∧ XArg W A k l := by
  rcases open_slice Try.underlying25 h with ⟨hv, -⟩ | ⟨a, len, cap, m, n', D, Pl, hv, -, hl, hm, hmm, -, hx⟩
  · simp only [List.cons.injEq, and_true] at hv
    exact ⟨none, 0, 0, [], hv, rfl, Nat.zero_le _, fun x hx => (by cases hx), fun q => absurd q (by omega)⟩
  · simp only [List.cons.injEq, and_true] at hv
    have hlm : len ≤ m := by rw [hmm]; split <;> omega
    have ce : Try.prog.cellsOf 50 = 5 := by kernel_rfl
    have c_int : Try.prog.cellsOf 3 = 1 := by kernel_rfl
    have c_string : Try.prog.cellsOf 9 = 1 := by kernel_rfl
    have each : ∀ i, i < m → ∃ q : RX, q.ok ∧ W.cell? (a.add (i * 5)) = some (.string q.nm) ∧ W.cell? (a.add (i * 5 + 1)) = some (.int .i64 q.kd) ∧ W.cell? (a.add (i * 5 + 2)) = some (.int .i64 q.ttl) ∧ W.cell? (a.add (i * 5 + 3)) = some (.int .i64 q.addr) ∧ W.cell? (a.add (i * 5 + 4)) = some (.string q.dst) := by
      intro i hi
      obtain ⟨cs', h1, h2⟩ := hx i hi
      rw [ce] at h1
      obtain ⟨_, hlen, hcell⟩ := World.cells?_some h1
      obtain ⟨xs, k, hk, hxy, _, hxl, hf⟩ := DataW.trod_struct Try.underlying50 h2
      match xs, hxl, cs', hlen with
      | [y0, y1, y2, y3, y4], _, [v0, v1, v2, v3, v4], _ =>
        have g0 := hf 0 _ rfl
        have g1 := hf 1 _ rfl
        have g2 := hf 2 _ rfl
        have g3 := hf 3 _ rfl
        have g4 := hf 4 _ rfl
        simp [c_int, c_string] at g0 g1 g2 g3 g4
        have e0 := hcell 0 (by omega)
        have e1 := hcell 1 (by omega)
        have e2 := hcell 2 (by omega)
        have e3 := hcell 3 (by omega)
        have e4 := hcell 4 (by omega)
        rw [add_add] at e0 e1 e2 e3 e4
        obtain ⟨a0, q0, -, w0⟩ := DataW.trod_string Try.underlying9 g0
        obtain ⟨a1, q1, -, w1⟩ := DataW.trod_int Try.underlying3 g1
        obtain ⟨a2, q2, -, w2⟩ := DataW.trod_int Try.underlying3 g2
        obtain ⟨a3, q3, -, w3⟩ := DataW.trod_int Try.underlying3 g3
        obtain ⟨a4, q4, -, w4⟩ := DataW.trod_string Try.underlying9 g4
        simp only [List.cons.injEq, and_true] at q0 q1 q2 q3 q4
        subst q0 q1 q2 q3 q4
        exact ⟨⟨a0, a1, a2, a3, a4⟩, ⟨by have := w0; unfold maxLen at this; exact this, bounds_i64 w1, bounds_i64 w2, bounds_i64 w3, by have := w4; unfold maxLen at this; exact this⟩, by simpa using e0, by simpa using e1, by simpa using e2, by simpa using e3, by simpa using e4⟩
    obtain ⟨q, hq⟩ := choose_lt each
    refine ⟨some a, len, cap, (List.range len).map q, hv, by simp, Nat.le_trans hl hm, ?_, fun h0 => ?_⟩
    · intro x hx
      obtain ⟨i, hi, rfl⟩ := List.mem_map.1 hx
      have hi := List.mem_range.1 hi
      exact (hq i (by omega)).1
    · have hs : a.spot = none := by
        have := (hq 0 (by omega)).2.1
        unfold World.cell? at this
        cases hsp : a.spot with
        | none => rfl
        | some z => simp [Addr.add, hsp] at this; split at this <;> cases this
      obtain ⟨b, o, sp⟩ := a
      simp only at hs
      subst hs
      have hblt : b < W.heap.size := by
        have := (hq 0 (by omega)).2.1
        rw [Addr.add_lit] at this
        exact World.block_lt_of_cell? W _ this
      refine ⟨b, o, rfl, hblt, fun i x hi => ?_⟩
      rw [List.getElem?_map] at hi
      have hil : i < len := by
        rcases Nat.lt_or_ge i len with q' | q'
        · exact q'
        · rw [List.getElem?_eq_none (by simpa using q')] at hi; cases hi
      rw [List.getElem?_range hil] at hi
      simp only [Option.map_some, Option.some.injEq] at hi
      subst hi
      obtain ⟨-, c0, c1, c2, c3, c4⟩ := hq i (by omega)
      rw [Addr.add_lit] at c0 c1 c2 c3 c4
      exact ⟨c0, by rw [Nat.add_assoc]; exact c1, by rw [Nat.add_assoc]; exact c2, by rw [Nat.add_assoc]; exact c3, by rw [Nat.add_assoc]; exact c4⟩
end Go.Proofs.Ythdggmigjddneaa.Dn
