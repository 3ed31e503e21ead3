/-
  A list of strings as an argument.
-/
import Derived.Test.YtjdoemmfemogmaaRows
import Derived.Test.YtjdoemmfemogmaaBase1
import Derived.Deep.SlicePairs
import Derived.ChangeArms
import Derived.OpenShut
namespace Go.Proofs.Ytjdoemmfemogmaa.Ar
set_option maxRecDepth 100000
open Go.RowKit Go.Proofs.Ytjdoemmfemogmaa.Wire Go.Deep Go.ChangeShapes Go.WideShapes

/-- the slice at A of k bytes came in; it holds the list l -/
def ArgS (W : World) (A : Option Addr) (k : Nat) (l : List ByteArray) : Prop :=
  l.length = k ∧ k ≤ maxLen ∧ (∀ x ∈ l, x.size ≤ 9223372036854775807) ∧ (0 < k → ∃ b o, A = some ⟨b, o, none⟩ ∧ b < W.heap.size ∧ ∀ (i : Nat) (x : ByteArray), l[i]? = some x → W.cell? ⟨b, o + i, none⟩ = some (.string x))
theorem ArgS.at_ {W : World} {A : Option Addr} {k : Nat} {l : List ByteArray} (h : ArgS W A k l) (i : Nat) (hi : i < k) : ∃ b o x, A = some ⟨b, o, none⟩ ∧ l[i]? = some x ∧ b < W.heap.size ∧ x.size ≤ 9223372036854775807 ∧ W.cell? ⟨b, o + i, none⟩ = some (.string x) := by
  obtain ⟨hl, -, hin, hx⟩ := h
  obtain ⟨b, o, e, hb, hc⟩ := hx (by omega)
  have hi' : l[i]? = some l[i] := List.getElem?_eq_getElem (by omega)
  exact ⟨b, o, _, e, hi', hb, hin _ (List.getElem_mem _), hc i _ hi'⟩
theorem ArgS.below {W W' : World} {A : Option Addr} {k : Nat} {l : List ByteArray} (h : ArgS W A k l) (hb : Below W.heap.size W W') : ArgS W' A k l := by
  obtain ⟨hl, h2, hin, hx⟩ := h
  refine ⟨hl, h2, hin, fun h0 => ?_⟩
  obtain ⟨b, o, e, hbl, hc⟩ := hx h0
  exact ⟨b, o, e, Nat.lt_of_lt_of_le hbl hb.size, fun i x hi => bcell hb (hc i x hi)⟩
theorem ArgS.size {W : World} {A : Option Addr} {k : Nat} {l : List ByteArray} (h : ArgS W A k l) : k ≤ 9223372036854775807 := by have := h.2.1; unfold maxLen at this; omega
theorem open_strs {H : Type} {enc : TypeId × Value → H} {W : World} {n : Nat} {v : Value} {y : DataW H × List MemPlace}
    (h : DataW.trod enc Try.prog W 0 (fun _ => true) true n 35 [v] = some y) : ∃ (A : Option Addr) (k c : Nat) (l : List ByteArray), v = .slice A k c ∧ ArgS W A k l := by
  rcases open_slice Try.underlying35 h with ⟨hv, -⟩ | ⟨a, len, cap, m, n', D, Pl, hv, -, hl, hm, hmm, -, hx⟩
  · simp only [List.cons.injEq, and_true] at hv
    exact ⟨none, 0, 0, [], hv, rfl, Nat.zero_le _, fun x hx => (by cases hx), fun q => absurd q (by omega)⟩
  · simp only [List.cons.injEq, and_true] at hv
    have hlm : len ≤ m := by rw [hmm]; split <;> omega
    have ce : Try.prog.cellsOf 9 = 1 := by kernel_rfl
    have each : ∀ i, i < m → ∃ q : ByteArray, q.size ≤ 9223372036854775807 ∧ W.cell? (a.add i) = some (.string q) := by
      intro i hi
      obtain ⟨cs', h1, h2⟩ := hx i hi
      rw [ce] at h1
      obtain ⟨_, hlen, hcell⟩ := World.cells?_some h1
      match cs', hlen with
      | [v0], _ =>
        have e0 := hcell 0 (by omega)
        rw [add_add] at e0
        obtain ⟨a0, q0, -, w0⟩ := DataW.trod_string Try.underlying9 h2
        simp only [List.cons.injEq, and_true] at q0
        subst q0
        exact ⟨a0, (by have := w0; unfold maxLen at this; omega), by simpa using e0⟩
    obtain ⟨q, hq⟩ := choose_lt each
    refine ⟨some a, len, cap, (List.range len).map q, hv, by simp, Nat.le_trans hl hm, ?_, fun h0 => ?_⟩
    · intro x hx
      obtain ⟨i, hi, rfl⟩ := List.mem_map.1 hx
      have hi := List.mem_range.1 hi
      exact (hq i (by omega)).1
    · have hs : a.spot = none := by
        have := (hq 0 (by omega)).2
        unfold World.cell? at this
        cases hsp : a.spot with
        | none => rfl
        | some z => simp [Addr.add, hsp] at this; split at this <;> cases this
      obtain ⟨b, o, sp⟩ := a
      simp only at hs
      subst hs
      have hblt : b < W.heap.size := by
        have := (hq 0 (by omega)).2
        rw [Addr.add_lit] at this
        exact World.block_lt_of_cell? W _ this
      refine ⟨b, o, rfl, hblt, fun i x hi => ?_⟩
      rw [List.getElem?_map] at hi
      have hil : i < len := by
        rcases Nat.lt_or_ge i len with q' | q'
        · exact q'
        · rw [List.getElem?_eq_none (by simpa using q')] at hi; cases hi
      rw [List.getElem?_range hil] at hi
      simp only [Option.map_some, Option.some.injEq] at hi
      subst hi
      have := (hq i (by omega)).2
      rw [Addr.add_lit] at this
      exact this
end Go.Proofs.Ytjdoemmfemogmaa.Ar
