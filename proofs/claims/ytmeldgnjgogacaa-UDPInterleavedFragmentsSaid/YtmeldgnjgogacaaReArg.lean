/-
  A list of raw fragments as an argument.
-/
import Derived.Test.YtmeldgnjgogacaaRows
import Derived.Test.YtmeldgnjgogacaaBase1
import Derived.Deep.SlicePairs
import Derived.ChangeArms
import Derived.OpenShut
namespace Go.Proofs.Ytmeldgnjgogacaa.Re
set_option maxRecDepth 100000
open Go.RowKit Go.Proofs.Ytmeldgnjgogacaa.Wire Go.Deep Go.ChangeShapes Go.WideShapes

structure Prw where
  wh : Nat
  of : Nat
  lo : Nat
  mo : Bool
  od : Nat
instance : Inhabited Prw := ⟨⟨0, 0, 0, false, 0⟩⟩
def Prw.ok (x : Prw) : Prop := x.wh < 256 ∧ x.of < 256 ∧ x.lo < 256 ∧ True ∧ x.od < 256
/-- the slice at A of k elements came in; it holds the list l -/
def ArgP (W : World) (A : Option Addr) (k : Nat) (l : List Prw) : Prop :=
  l.length = k ∧ k ≤ maxLen ∧ (∀ x ∈ l, x.ok) ∧ (0 < k → ∃ b o, A = some ⟨b, o, none⟩ ∧ b < W.heap.size ∧ ∀ (i : Nat) (x : Prw), l[i]? = some x → W.cell? ⟨b, o + i * 5, none⟩ = some (.int .u8 ((x.wh : Nat) : Int)) ∧ W.cell? ⟨b, o + i * 5 + 1, none⟩ = some (.int .u8 ((x.of : Nat) : Int)) ∧ W.cell? ⟨b, o + i * 5 + 2, none⟩ = some (.int .u8 ((x.lo : Nat) : Int)) ∧ W.cell? ⟨b, o + i * 5 + 3, none⟩ = some (.bool x.mo) ∧ W.cell? ⟨b, o + i * 5 + 4, none⟩ = some (.int .u8 ((x.od : Nat) : Int)))
theorem ArgP.at_ {W : World} {A : Option Addr} {k : Nat} {l : List Prw} (h : ArgP W A k l) (i : Nat) (hi : i < k) : ∃ b o x, A = some ⟨b, o, none⟩ ∧ l[i]? = some x ∧ b < W.heap.size ∧ x.ok ∧
    W.cell? ⟨b, o + i * 5, none⟩ = some (.int .u8 ((x.wh : Nat) : Int)) ∧ W.cell? ⟨b, o + i * 5 + 1, none⟩ = some (.int .u8 ((x.of : Nat) : Int)) ∧ W.cell? ⟨b, o + i * 5 + 2, none⟩ = some (.int .u8 ((x.lo : Nat) : Int)) ∧ W.cell? ⟨b, o + i * 5 + 3, none⟩ = some (.bool x.mo) ∧ W.cell? ⟨b, o + i * 5 + 4, none⟩ = some (.int .u8 ((x.od : Nat) : Int)) := by
  obtain ⟨hl, -, hin, hx⟩ := h
  obtain ⟨b, o, e, hb, hc⟩ := hx (by omega)
  have hi' : l[i]? = some l[i] := List.getElem?_eq_getElem (by omega)
  exact ⟨b, o, _, e, hi', hb, hin _ (List.getElem_mem _), hc i _ hi'⟩
theorem ArgP.below {W W' : World} {A : Option Addr} {k : Nat} {l : List Prw} (h : ArgP W A k l) (hb : Below W.heap.size W W') : ArgP W' A k l := by
  obtain ⟨hl, h2, hin, hx⟩ := h
  refine ⟨hl, h2, hin, fun h0 => ?_⟩
  obtain ⟨b, o, e, hbl, hc⟩ := hx h0
  refine ⟨b, o, e, Nat.lt_of_lt_of_le hbl hb.size, fun i x hi => ?_⟩
  have := hc i x hi
  exact ⟨bcell hb this.1, bcell hb this.2.1, bcell hb this.2.2.1, bcell hb this.2.2.2.1, bcell hb this.2.2.2.2⟩
theorem ArgP.size {W : World} {A : Option Addr} {k : Nat} {l : List Prw} (h : ArgP W A k l) : k ≤ 9223372036854775807 := by have := h.2.1; unfold maxLen at this; omega
theorem open_parts {H : Type} {enc : TypeId × Value → H} {W : World} {n : Nat} {v : Value} {y : DataW H × List MemPlace}
    (h : DataW.trod enc Try.prog W 0 (fun _ => true) true n 47 [v] = some y) : ∃ (A : Option Addr) (k c : Nat) (l : List Prw), v = .slice A k c ∧ ArgP W A k l := by
  rcases open_slice Try.underlying47 h with ⟨hv, -⟩ | ⟨a, len, cap, m, n', D, Pl, hv, -, hl, hm, hmm, -, hx⟩
  · simp only [List.cons.injEq, and_true] at hv
    exact ⟨none, 0, 0, [], hv, rfl, Nat.zero_le _, fun x hx => (by cases hx), fun q => absurd q (by omega)⟩
  · simp only [List.cons.injEq, and_true] at hv
    have hlm : len ≤ m := by rw [hmm]; split <;> omega
    have ce : Try.prog.cellsOf 23 = 5 := by kernel_rfl
    have c_bool : Try.prog.cellsOf 4 = 1 := by kernel_rfl
    have c_u8 : Try.prog.cellsOf 5 = 1 := by kernel_rfl
    have each : ∀ i, i < m → ∃ q : Prw, q.ok ∧ W.cell? (a.add (i * 5)) = some (.int .u8 ((q.wh : Nat) : Int)) ∧ W.cell? (a.add (i * 5 + 1)) = some (.int .u8 ((q.of : Nat) : Int)) ∧ W.cell? (a.add (i * 5 + 2)) = some (.int .u8 ((q.lo : Nat) : Int)) ∧ W.cell? (a.add (i * 5 + 3)) = some (.bool q.mo) ∧ W.cell? (a.add (i * 5 + 4)) = some (.int .u8 ((q.od : Nat) : Int)) := by
      intro i hi
      obtain ⟨cs', h1, h2⟩ := hx i hi
      rw [ce] at h1
      obtain ⟨_, hlen, hcell⟩ := World.cells?_some h1
      obtain ⟨xs, k, hk, hxy, _, hxl, hf⟩ := DataW.trod_struct Try.underlying23 h2
      match xs, hxl, cs', hlen with
      | [y0, y1, y2, y3, y4], _, [v0, v1, v2, v3, v4], _ =>
        have g0 := hf 0 _ rfl
        have g1 := hf 1 _ rfl
        have g2 := hf 2 _ rfl
        have g3 := hf 3 _ rfl
        have g4 := hf 4 _ rfl
        simp [c_bool, c_u8] at g0 g1 g2 g3 g4
        have e0 := hcell 0 (by omega)
        have e1 := hcell 1 (by omega)
        have e2 := hcell 2 (by omega)
        have e3 := hcell 3 (by omega)
        have e4 := hcell 4 (by omega)
        rw [add_add] at e0 e1 e2 e3 e4
        obtain ⟨a0, q0, -, w0⟩ := DataW.trod_int Try.underlying5 g0
        obtain ⟨a1, q1, -, w1⟩ := DataW.trod_int Try.underlying5 g1
        obtain ⟨a2, q2, -, w2⟩ := DataW.trod_int Try.underlying5 g2
        obtain ⟨a3, q3, -⟩ := DataW.trod_bool Try.underlying4 g3
        obtain ⟨a4, q4, -, w4⟩ := DataW.trod_int Try.underlying5 g4
        simp only [List.cons.injEq, and_true] at q0 q1 q2 q3 q4
        subst q0 q1 q2 q3 q4
        have b0 := bounds_u8 w0
        obtain ⟨z0, hz0⟩ := Int.eq_ofNat_of_zero_le b0.1
        subst hz0
        have b1 := bounds_u8 w1
        obtain ⟨z1, hz1⟩ := Int.eq_ofNat_of_zero_le b1.1
        subst hz1
        have b2 := bounds_u8 w2
        obtain ⟨z2, hz2⟩ := Int.eq_ofNat_of_zero_le b2.1
        subst hz2
        have b4 := bounds_u8 w4
        obtain ⟨z4, hz4⟩ := Int.eq_ofNat_of_zero_le b4.1
        subst hz4
        exact ⟨⟨z0, z1, z2, a3, z4⟩, ⟨by show z0 < 256; omega, by show z1 < 256; omega, by show z2 < 256; omega, trivial, by show z4 < 256; omega⟩, by simpa using e0, by simpa using e1, by simpa using e2, by simpa using e3, by simpa using e4⟩
    obtain ⟨q, hq⟩ := choose_lt each
    refine ⟨some a, len, cap, (List.range len).map q, hv, by simp, Nat.le_trans hl hm, ?_, fun h0 => ?_⟩
    · intro x hx
      obtain ⟨i, hi, rfl⟩ := List.mem_map.1 hx
      have hi := List.mem_range.1 hi
      exact (hq i (by omega)).1
    · have hs : a.spot = none := by
        have := (hq 0 (by omega)).2.1
        unfold World.cell? at this
        cases hsp : a.spot with
        | none => rfl
        | some z => simp [Addr.add, hsp] at this; split at this <;> cases this
      obtain ⟨b, o, sp⟩ := a
      simp only at hs
      subst hs
      have hblt : b < W.heap.size := by
        have := (hq 0 (by omega)).2.1
        rw [Addr.add_lit] at this
        exact World.block_lt_of_cell? W _ this
      refine ⟨b, o, rfl, hblt, fun i x hi => ?_⟩
      rw [List.getElem?_map] at hi
      have hil : i < len := by
        rcases Nat.lt_or_ge i len with q' | q'
        · exact q'
        · rw [List.getElem?_eq_none (by simpa using q')] at hi; cases hi
      rw [List.getElem?_range hil] at hi
      simp only [Option.map_some, Option.some.injEq] at hi
      subst hi
      obtain ⟨-, c0, c1, c2, c3, c4⟩ := hq i (by omega)
      rw [Addr.add_lit] at c0 c1 c2 c3 c4
      exact ⟨c0, by rw [Nat.add_assoc]; exact c1, by rw [Nat.add_assoc]; exact c2, by rw [Nat.add_assoc]; exact c3, by rw [Nat.add_assoc]; exact c4⟩
end Go.Proofs.Ytmeldgnjgogacaa.Re
