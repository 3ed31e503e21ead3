/-
  A list of bytes as an argument.
-/
import Derived.Test.YtmeldgnjgogacaaRows
import Derived.Test.YtmeldgnjgogacaaBase1
import Derived.Deep.SlicePairs
import Derived.ChangeArms
import Derived.OpenShut
namespace Go.Proofs.Ytmeldgnjgogacaa.Re
set_option maxRecDepth 100000
open Go.RowKit Go.Proofs.Ytmeldgnjgogacaa.Wire Go.Deep Go.ChangeShapes Go.WideShapes

/-- the slice at A of k bytes came in; it holds the list l -/
def ArgU (W : World) (A : Option Addr) (k : Nat) (l : List Nat) : Prop :=
  l.length = k ∧ k ≤ maxLen ∧ (∀ x ∈ l, x < 256) ∧ (0 < k → ∃ b o, A = some ⟨b, o, none⟩ ∧ b < W.heap.size ∧ ∀ (i : Nat) (x : Nat), l[i]? = some x → W.cell? ⟨b, o + i, none⟩ = some (.int .u8 (x : Int)))
theorem ArgU.at_ {W : World} {A : Option Addr} {k : Nat} {l : List Nat} (h : ArgU W A k l) (i : Nat) (hi : i < k) : ∃ b o x, A = some ⟨b, o, none⟩ ∧ l[i]? = some x ∧ b < W.heap.size ∧ x < 256 ∧ W.cell? ⟨b, o + i, none⟩ = some (.int .u8 (x : Int)) := by
  obtain ⟨hl, -, hin, hx⟩ := h
  obtain ⟨b, o, e, hb, hc⟩ := hx (by omega)
  have hi' : l[i]? = some l[i] := List.getElem?_eq_getElem (by omega)
  exact ⟨b, o, _, e, hi', hb, hin _ (List.getElem_mem _), hc i _ hi'⟩
theorem ArgU.below {W W' : World} {A : Option Addr} {k : Nat} {l : List Nat} (h : ArgU W A k l) (hb : Below W.heap.size W W') : ArgU W' A k l := by
  obtain ⟨hl, h2, hin, hx⟩ := h
  refine ⟨hl, h2, hin, fun h0 => ?_⟩
  obtain ⟨b, o, e, hbl, hc⟩ := hx h0
  exact ⟨b, o, e, Nat.lt_of_lt_of_le hbl hb.size, fun i x hi => bcell hb (hc i x hi)⟩
theorem ArgU.size {W : World} {A : Option Addr} {k : Nat} {l : List Nat} (h : ArgU W A k l) : k ≤ 9223372036854775807 := by have := h.2.1; unfold maxLen at this; omega
theorem open_bytes {H : Type} {enc : TypeId × Value → H} {W : World} {n : Nat} {v : Value} {y : DataW H × List MemPlace}
    (h : DataW.trod enc Try.prog W 0 (fun _ => true) true n 41 [v] = some y) : ∃ (A : Option Addr) (k c : Nat) (l : List Nat), v = .slice A k c ∧ ArgU W A k l := by
  rcases open_slice Try.underlying41 h with ⟨hv, -⟩ | ⟨a, len, cap, m, n', D, Pl, hv, -, hl, hm, hmm, -, hx⟩
  · simp only [List.cons.injEq, and_true] at hv
    exact ⟨none, 0, 0, [], hv, rfl, Nat.zero_le _, fun x hx => (by cases hx), fun q => absurd q (by omega)⟩
  · simp only [List.cons.injEq, and_true] at hv
    have hlm : len ≤ m := by rw [hmm]; split <;> omega
    have ce : Try.prog.cellsOf 5 = 1 := by kernel_rfl
    have each : ∀ i, i < m → ∃ q : Nat, q < 256 ∧ W.cell? (a.add i) = some (.int .u8 (q : Int)) := by
      intro i hi
      obtain ⟨cs', h1, h2⟩ := hx i hi
      rw [ce] at h1
      obtain ⟨_, hlen, hcell⟩ := World.cells?_some h1
      match cs', hlen with
      | [v0], _ =>
        have e0 := hcell 0 (by omega)
        rw [add_add] at e0
        obtain ⟨a0, q0, -, w0⟩ := DataW.trod_int Try.underlying5 h2
        simp only [List.cons.injEq, and_true] at q0
        subst q0
        have b0 := bounds_u8 w0
        obtain ⟨z0, hz0⟩ := Int.eq_ofNat_of_zero_le b0.1
        subst hz0
        exact ⟨z0, by omega, by simpa using e0⟩
    obtain ⟨q, hq⟩ := choose_lt each
    refine ⟨some a, len, cap, (List.range len).map q, hv, by simp, Nat.le_trans hl hm, ?_, fun h0 => ?_⟩
    · intro x hx
      obtain ⟨i, hi, rfl⟩ := List.mem_map.1 hx
      have hi := List.mem_range.1 hi
      exact (hq i (by omega)).1
    · have hs : a.spot = none := by
        have := (hq 0 (by omega)).2
        unfold World.cell? at this
        cases hsp : a.spot with
        | none => rfl
        | some z => simp [Addr.add, hsp] at this; split at this <;> cases this
      obtain ⟨b, o, sp⟩ := a
      simp only at hs
      subst hs
      have hblt : b < W.heap.size := by
        have := (hq 0 (by omega)).2
        rw [Addr.add_lit] at this
        exact World.block_lt_of_cell? W _ this
      refine ⟨b, o, rfl, hblt, fun i x hi => ?_⟩
      rw [List.getElem?_map] at hi
      have hil : i < len := by
        rcases Nat.lt_or_ge i len with q' | q'
        · exact q'
        · rw [List.getElem?_eq_none (by simpa using q')] at hi; cases hi
      rw [List.getElem?_range hil] at hi
      simp only [Option.map_some, Option.some.injEq] at hi
      subst hi
      have := (hq i (by omega)).2
      rw [Addr.add_lit] at this
      exact this
end Go.Proofs.Ytmeldgnjgogacaa.Re
