/-
  A list of calls as an argument.
-/
import Derived.Test.YtjdoemmfemogmaaArArgC
namespace Go.Proofs.Ytjdoemmfemogmaa.Ar
set_option maxRecDepth 100000
open Go.RowKit Go.Proofs.Ytjdoemmfemogmaa.Wire Go.Deep Go.ChangeShapes Go.WideShapes

instance : Inhabited Cl := ⟨⟨0, 0, 0, 0, 0, ⟨#[]⟩, 0, 0, 0, 0, 0, 0⟩⟩
/-- the slice at A of k calls came in; it holds the list l -/
def ArgC (W : World) (A : Option Addr) (k : Nat) (l : List Cl) : Prop :=
  l.length = k ∧ k ≤ maxLen ∧ (∀ x ∈ l, x.ok) ∧ (0 < k → ∃ b o, A = some ⟨b, o, none⟩ ∧ b < W.heap.size ∧ ∀ (i : Nat) (x : Cl), l[i]? = some x → ∀ (j : Nat) (u : Value), x.cells[j]? = some u → W.cell? ⟨b, o + i * 12 + j, none⟩ = some u)
theorem ArgC.at_ {W : World} {A : Option Addr} {k : Nat} {l : List Cl} (h : ArgC W A k l) (i : Nat) (hi : i < k) : ∃ b o x, A = some ⟨b, o, none⟩ ∧ l[i]? = some x ∧ b < W.heap.size ∧ x.ok ∧
    W.cell? ⟨b, o + i * 12, none⟩ = some (.int .u8 ((x.kd : Nat) : Int)) ∧ W.cell? ⟨b, o + i * 12 + 1, none⟩ = some (.int .i64 x.ad) ∧ W.cell? ⟨b, o + i * 12 + 2, none⟩ = some (.int .i64 x.mc) ∧ W.cell? ⟨b, o + i * 12 + 3, none⟩ = some (.int .i64 x.to_) ∧ W.cell? ⟨b, o + i * 12 + 4, none⟩ = some (.int .i64 x.op) ∧ W.cell? ⟨b, o + i * 12 + 5, none⟩ = some (.string x.s) ∧ W.cell? ⟨b, o + i * 12 + 6, none⟩ = some (.int .i64 x.ti) ∧ W.cell? ⟨b, o + i * 12 + 7, none⟩ = some (.int .i64 x.a0) ∧ W.cell? ⟨b, o + i * 12 + 8, none⟩ = some (.int .i64 x.a1) ∧ W.cell? ⟨b, o + i * 12 + 9, none⟩ = some (.int .i64 x.a2) ∧ W.cell? ⟨b, o + i * 12 + 10, none⟩ = some (.int .i64 x.a3) ∧ W.cell? ⟨b, o + i * 12 + 11, none⟩ = some (.int .i64 x.a4) := by
  obtain ⟨hl, -, hin, hx⟩ := h
  obtain ⟨b, o, e, hb, hc⟩ := hx (by omega)
  have hi' : l[i]? = some l[i] := List.getElem?_eq_getElem (by omega)
  have c := hc i _ hi'
  exact ⟨b, o, _, e, hi', hb, hin _ (List.getElem_mem _), c 0 _ rfl, c 1 _ rfl, c 2 _ rfl, c 3 _ rfl, c 4 _ rfl, c 5 _ rfl, c 6 _ rfl, c 7 _ rfl, c 8 _ rfl, c 9 _ rfl, c 10 _ rfl, c 11 _ rfl⟩
theorem ArgC.below {W W' : World} {A : Option Addr} {k : Nat} {l : List Cl} (h : ArgC W A k l) (hb : Below W.heap.size W W') : ArgC W' A k l := by
  obtain ⟨hl, h2, hin, hx⟩ := h
  refine ⟨hl, h2, hin, fun h0 => ?_⟩
  obtain ⟨b, o, e, hbl, hc⟩ := hx h0
  exact ⟨b, o, e, Nat.lt_of_lt_of_le hbl hb.size, fun i x hi j u hu => bcell hb (hc i x hi j u hu)⟩
theorem ArgC.size {W : World} {A : Option Addr} {k : Nat} {l : List Cl} (h : ArgC W A k l) : k ≤ 9223372036854775807 := by have := h.2.1; unfold maxLen at this; omega
theorem open_callsL {H : Type} {enc : TypeId × Value → H} {W : World} {n : Nat} {v : Value} {y : DataW H × List MemPlace}
    (h : DataW.trod enc Try.prog W 0 (fun _ => true) true n 47 [v] = some y) : ∃ (A : Option Addr) (k c : Nat) (l : List Cl), v = .slice A k c ∧ ArgC W A k l := by
  rcases open_slice Try.underlying47 h with ⟨hv, -⟩ | ⟨a, len, cap, m, n', D, Pl, hv, -, hl, hm, hmm, -, hx⟩
  · simp only [List.cons.injEq, and_true] at hv
    exact ⟨none, 0, 0, [], hv, rfl, Nat.zero_le _, fun x hx => (by cases hx), fun q => absurd q (by omega)⟩
  · simp only [List.cons.injEq, and_true] at hv
    have hlm : len ≤ m := by rw [hmm]; split <;> omega
    have ce : Try.prog.cellsOf 25 = 12 := by kernel_rfl
    have each : ∀ i, i < m → ∃ q : Cl, q.ok ∧ ∀ (j : Nat) (u : Value), q.cells[j]? = some u → W.cell? (a.add (i * 12 + j)) = some u := by
      intro i hi
      obtain ⟨cs', h1, h2⟩ := hx i hi
      rw [ce] at h1
      obtain ⟨_, hlen, hcell⟩ := World.cells?_some h1
      match cs', hlen with
      | [v0, v1, v2, v3, v4, v5, v6, v7, v8, v9, v10, v11], _ =>
        obtain ⟨q, hq, e⟩ := trod_call h2
        refine ⟨q, hq, fun j u hu => ?_⟩
        rw [← e] at hu
        have hj : j < 12 := by have := (List.getElem?_eq_some_iff.1 hu).1; simpa using this
        have e0 := hcell j hj
        rw [add_add] at e0
        rw [e0]
        exact hu
    obtain ⟨q, hq⟩ := choose_lt each
    refine ⟨some a, len, cap, (List.range len).map q, hv, by simp, Nat.le_trans hl hm, ?_, fun h0 => ?_⟩
    · intro x hx
      obtain ⟨i, hi, rfl⟩ := List.mem_map.1 hx
      have hi := List.mem_range.1 hi
      exact (hq i (by omega)).1
    · have hs : a.spot = none := by
        have := (hq 0 (by omega)).2 0 _ rfl
        unfold World.cell? at this
        cases hsp : a.spot with
        | none => rfl
        | some z => simp [Addr.add, hsp] at this; split at this <;> cases this
      obtain ⟨b, o, sp⟩ := a
      simp only at hs
      subst hs
      have hblt : b < W.heap.size := by
        have := (hq 0 (by omega)).2 0 _ rfl
        rw [Addr.add_lit] at this
        exact World.block_lt_of_cell? W _ this
      refine ⟨b, o, rfl, hblt, fun i x hi j u hu => ?_⟩
      rw [List.getElem?_map] at hi
      have hil : i < len := by
        rcases Nat.lt_or_ge i len with q' | q'
        · exact q'
        · rw [List.getElem?_eq_none (by simpa using q')] at hi; cases hi
      rw [List.getElem?_range hil] at hi
      simp only [Option.map_some, Option.some.injEq] at hi
      subst hi
      have := (hq i (by omega)).2 j u hu
      rw [Addr.add_lit] at this
      rw [Nat.add_assoc]
      exact this
end Go.Proofs.Ytjdoemmfemogmaa.Ar
