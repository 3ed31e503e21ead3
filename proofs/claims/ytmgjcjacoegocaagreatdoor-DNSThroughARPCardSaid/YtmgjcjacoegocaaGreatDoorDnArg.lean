/-
  A list of raw records as an argument.
-/
import Derived.Test.YtmgjcjacoegocaaGreatDoorRows
import Derived.Test.YtmgjcjacoegocaaGreatDoorBase1
import Derived.Deep.SlicePairs
import Derived.ChangeArms
import Derived.OpenShut
namespace Go.Proofs.YtmgjcjacoegocaaGreatDoor.Dn
set_option maxRecDepth 100000
open Go.RowKit Go.Proofs.YtmgjcjacoegocaaGreatDoor.Wire Go.Deep Go.ChangeShapes Go.WideShapes

structure RR where
  nm : Int
  alias : Bool
  ttl : Int
  n : Int
instance : Inhabited RR := ⟨⟨0, false, 0, 0⟩⟩
def RR.ok (x : RR) : Prop := (-9223372036854775808 ≤ x.nm ∧ x.nm ≤ 9223372036854775807) ∧ True ∧ (-9223372036854775808 ≤ x.ttl ∧ x.ttl ≤ 9223372036854775807) ∧ (-9223372036854775808 ≤ x.n ∧ x.n ≤ 9223372036854775807)
/-- the slice at A of k elements came in; it holds the list l -/
def RArg (W : World) (A : Option Addr) (k : Nat) (l : List RR) : Prop :=
  l.length = k ∧ k ≤ maxLen ∧ (∀ x ∈ l, x.ok) ∧ (0 < k → ∃ b o, A = some ⟨b, o, none⟩ ∧ b < W.heap.size ∧ ∀ (i : Nat) (x : RR), l[i]? = some x → W.cell? ⟨b, o + i * 4, none⟩ = some (.int .i64 x.nm) ∧ W.cell? ⟨b, o + i * 4 + 1, none⟩ = some (.bool x.alias) ∧ W.cell? ⟨b, o + i * 4 + 2, none⟩ = some (.int .i64 x.ttl) ∧ W.cell? ⟨b, o + i * 4 + 3, none⟩ = some (.int .i64 x.n))
theorem RArg.at_ {W : World} {A : Option Addr} {k : Nat} {l : List RR} (h : RArg W A k l) (i : Nat) (hi : i < k) : ∃ b o x, A = some ⟨b, o, none⟩ ∧ l[i]? = some x ∧ b < W.heap.size ∧ x.ok ∧
    W.cell? ⟨b, o + i * 4, none⟩ = some (.int .i64 x.nm) ∧ W.cell? ⟨b, o + i * 4 + 1, none⟩ = some (.bool x.alias) ∧ W.cell? ⟨b, o + i * 4 + 2, none⟩ = some (.int .i64 x.ttl) ∧ W.cell? ⟨b, o + i * 4 + 3, none⟩ = some (.int .i64 x.n) := by
  obtain ⟨hl, -, hin, hx⟩ := h
  obtain ⟨b, o, e, hb, hc⟩ := hx (by omega)
  have hi' : l[i]? = some l[i] := List.getElem?_eq_getElem (by omega)
  exact ⟨b, o, _, e, hi', hb, hin _ (List.getElem_mem _), hc i _ hi'⟩
theorem RArg.below {W W' : World} {A : Option Addr} {k : Nat} {l : List RR} (h : RArg W A k l) (hb : Below W.heap.size W W') : RArg W' A k l := by
  obtain ⟨hl, h2, hin, hx⟩ := h
  refine ⟨hl, h2, hin, fun h0 => ?_⟩
  obtain ⟨b, o, e, hbl, hc⟩ := hx h0
  refine ⟨b, o, e, Nat.lt_of_lt_of_le hbl hb.size, fun i x hi => ?_⟩
  have := hc i x hi
  exact ⟨bcell hb this.1, bcell hb this.2.1, bcell hb this.2.2.1, bcell hb this.2.2.2⟩
theorem RArg.size {W : World} {A : Option Addr} {k : Nat} {l : List RR} (h : RArg W A k l) : k ≤ 9223372036854775807 := by have := h.2.1; unfold maxLen at this; omega
theorem open_rrs {H : Type} {enc : TypeId × Value → H} {W : World} {n : Nat} {v : Value} {y : DataW H × List MemPlace}
    (h : DataW.trod enc Tryz.prog W 0 (fun _ => true) true n 22 [v] = some y) : ∃ (A : Option Addr) (k c : Nat) (l : List RR), v = .slice A k c ∧ RArg W A k l := by
  rcases open_slice Tryz.underlying22 h with ⟨hv, -⟩ | ⟨a, len, cap, m, n', D, Pl, hv, -, hl, hm, hmm, -, hx⟩
  · simp only [List.cons.injEq, and_true] at hv
    exact ⟨none, 0, 0, [], hv, rfl, Nat.zero_le _, fun x hx => (by cases hx), fun q => absurd q (by omega)⟩
  · simp only [List.cons.injEq, and_true] at hv
    have hlm : len ≤ m := by rw [hmm]; split <;> omega
    have ce : Tryz.prog.cellsOf 117 = 4 := by kernel_rfl
    have c_bool : Tryz.prog.cellsOf 4 = 1 := by kernel_rfl
    have c_int : Tryz.prog.cellsOf 3 = 1 := by kernel_rfl
    have each : ∀ i, i < m → ∃ q : RR, q.ok ∧ W.cell? (a.add (i * 4)) = some (.int .i64 q.nm) ∧ W.cell? (a.add (i * 4 + 1)) = some (.bool q.alias) ∧ W.cell? (a.add (i * 4 + 2)) = some (.int .i64 q.ttl) ∧ W.cell? (a.add (i * 4 + 3)) = some (.int .i64 q.n) := by
      intro i hi
      obtain ⟨cs', h1, h2⟩ := hx i hi
      rw [ce] at h1
      obtain ⟨_, hlen, hcell⟩ := World.cells?_some h1
      obtain ⟨xs, k, hk, hxy, _, hxl, hf⟩ := DataW.trod_struct Tryz.underlying117 h2
      match xs, hxl, cs', hlen with
      | [y0, y1, y2, y3], _, [v0, v1, v2, v3], _ =>
        have g0 := hf 0 _ rfl
        have g1 := hf 1 _ rfl
        have g2 := hf 2 _ rfl
        have g3 := hf 3 _ rfl
        simp [c_bool, c_int] at g0 g1 g2 g3
        have e0 := hcell 0 (by omega)
        have e1 := hcell 1 (by omega)
        have e2 := hcell 2 (by omega)
        have e3 := hcell 3 (by omega)
        rw [add_add] at e0 e1 e2 e3
        obtain ⟨a0, q0, -, w0⟩ := DataW.trod_int Tryz.underlying3 g0
        obtain ⟨a1, q1, -⟩ := DataW.trod_bool Tryz.underlying4 g1
        obtain ⟨a2, q2, -, w2⟩ := DataW.trod_int Tryz.underlying3 g2
        obtain ⟨a3, q3, -, w3⟩ := DataW.trod_int Tryz.underlying3 g3
        simp only [List.cons.injEq, and_true] at q0 q1 q2 q3
        subst q0 q1 q2 q3
        exact ⟨⟨a0, a1, a2, a3⟩, ⟨bounds_i64 w0, trivial, bounds_i64 w2, bounds_i64 w3⟩, by simpa using e0, by simpa using e1, by simpa using e2, by simpa using e3⟩
    obtain ⟨q, hq⟩ := choose_lt each
    refine ⟨some a, len, cap, (List.range len).map q, hv, by simp, Nat.le_trans hl hm, ?_, fun h0 => ?_⟩
    · intro x hx
      obtain ⟨i, hi, rfl⟩ := List.mem_map.1 hx
      have hi := List.mem_range.1 hi
      exact (hq i (by omega)).1
    · have hs : a.spot = none := by
        have := (hq 0 (by omega)).2.1
        unfold World.cell? at this
        cases hsp : a.spot with
        | none => rfl
        | some z => simp [Addr.add, hsp] at this; split at this <;> cases this
      obtain ⟨b, o, sp⟩ := a
      simp only at hs
      subst hs
      have hblt : b < W.heap.size := by
        have := (hq 0 (by omega)).2.1
        rw [Addr.add_lit] at this
        exact World.block_lt_of_cell? W _ this
      refine ⟨b, o, rfl, hblt, fun i x hi => ?_⟩
      rw [List.getElem?_map] at hi
      have hil : i < len := by
        rcases Nat.lt_or_ge i len with q' | q'
        · exact q'
        · rw [List.getElem?_eq_none (by simpa using q')] at hi; cases hi
      rw [List.getElem?_range hil] at hi
      simp only [Option.map_some, Option.some.injEq] at hi
      subst hi
      obtain ⟨-, c0, c1, c2, c3⟩ := hq i (by omega)
      rw [Addr.add_lit] at c0 c1 c2 c3
      exact ⟨c0, by rw [Nat.add_assoc]; exact c1, by rw [Nat.add_assoc]; exact c2, by rw [Nat.add_assoc]; exact c3⟩
end Go.Proofs.YtmgjcjacoegocaaGreatDoor.Dn
