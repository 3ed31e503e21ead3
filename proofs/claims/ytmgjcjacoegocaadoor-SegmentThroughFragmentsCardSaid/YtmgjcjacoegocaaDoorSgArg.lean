/-
  A segment that comes in as an argument of a law of chapter 11, and what cut and SegOf make of it.
-/
import Derived.Test.YtmgjcjacoegocaaDoorSgSegOf
import Derived.Test.YtmgjcjacoegocaaDoorStore
import Derived.Deep.SlicePairs
import Derived.ChangeArms
import Derived.OpenShut
namespace Go.Proofs.YtmgjcjacoegocaaDoor.Sg
set_option maxRecDepth 100000
open Go.RowKit Go.Proofs.YtmgjcjacoegocaaDoor.Wire Go.Deep Go.ChangeShapes Go.WideShapes

theorem spCells_at : ∀ (l : List (Int × Int)) (j : Nat) (u : Value), (spCells l)[j]? = some u → ∃ (i : Nat) (x : Int × Int), l[i]? = some x ∧ ((j = i * 2 ∧ u = .int .i64 x.1) ∨ (j = i * 2 + 1 ∧ u = .int .i64 x.2))
  | [], j, u, h => by simp [spCells] at h
  | x :: l, 0, u, h => ⟨0, x, rfl, Or.inl ⟨rfl, by simpa [spCells] using h.symm⟩⟩
  | x :: l, 1, u, h => ⟨0, x, rfl, Or.inr ⟨rfl, by simpa [spCells] using h.symm⟩⟩
  | x :: l, j + 2, u, h => by
    have e : spCells (x :: l) = .int .i64 x.1 :: .int .i64 x.2 :: spCells l := rfl
    rw [e] at h
    obtain ⟨i, y, hy, hc⟩ := spCells_at l j u (by simpa using h)
    refine ⟨i + 1, y, by simpa using hy, ?_⟩
    rcases hc with ⟨q, r⟩ | ⟨q, r⟩
    · exact Or.inl ⟨by omega, r⟩
    · exact Or.inr ⟨by omega, r⟩
/-- the slice at A of k elements, of capacity c, came in; it holds the blocks bl -/
def ArgB (W : World) (A : Option Addr) (k c : Nat) (bl : List (Int × Int)) : Prop :=
  bl.length = k ∧ k ≤ c ∧ c ≤ maxLen ∧ (∀ x ∈ bl, In64 x.1 ∧ In64 x.2) ∧ (A = none → k = 0 ∧ c = 0) ∧ ∀ a, A = some a → ∀ j u, (spCells bl)[j]? = some u → W.cell? (a.add j) = some u
theorem ArgB.below {W w1 : World} {A : Option Addr} {k c : Nat} {bl : List (Int × Int)} (h : ArgB W A k c bl) (hb : Below W.heap.size W w1) : ArgB w1 A k c bl :=
  ⟨h.1, h.2.1, h.2.2.1, h.2.2.2.1, h.2.2.2.2.1, fun a ha j u hj => cell_kept (row := none) (h.2.2.2.2.2 a ha j u hj) ⟨hb.os, hb.tape, hb.output, hb.size, fun i hi _ => hb.block i hi⟩ (fun r e => by cases e)⟩
theorem ArgB.alloc {W : World} {A : Option Addr} {k c : Nat} {bl : List (Int × Int)} (h : ArgB W A k c bl) (o : Obj) : ArgB (W.alloc o) A k c bl :=
  ⟨h.1, h.2.1, h.2.2.1, h.2.2.2.1, h.2.2.2.2.1, fun a ha j u hj => cell_alloc' o (h.2.2.2.2.2 a ha j u hj)⟩
theorem i64_wf {n : Int} (h : (Lit.int .i64 n).wf = true) : In64 n := bounds_i64 h
theorem open_blocks {H : Type} {enc : TypeId × Value → H} {W : World} {n : Nat} {v : Value} {y : DataW H × List MemPlace}
    (h : DataW.trod enc Tryd.prog W 0 (fun _ => true) true n 22 [v] = some y) : ∃ (A : Option Addr) (k c : Nat) (bl : List (Int × Int)), v = .slice A k c ∧ ArgB W A k c bl := by
  rcases open_slice_pairs Tryd.underlying22 Tryd.underlying73 (by kernel_rfl) rfl rfl (by kernel_rfl) (by kernel_rfl) h with ⟨hv, -⟩ | ⟨a, len, cap, m, n', V0, V1, D0, D1, P0, P1, hv, -, hl, hc, hm, -, hx⟩
  · simp only [List.cons.injEq, and_true] at hv
    exact ⟨none, 0, 0, [], hv, rfl, Nat.le_refl _, Nat.zero_le _, fun x hx => (by cases hx), fun _ => ⟨rfl, rfl⟩, fun a ha => (by cases ha)⟩
  · simp only [List.cons.injEq, and_true] at hv
    have hm' : m = cap := by simpa using hm
    subst hm'
    have key : ∀ i, i < m → In64 (intOf (V0 i)) ∧ In64 (intOf (V1 i)) ∧ W.cell? (a.add (i * 2)) = some (.int .i64 (intOf (V0 i))) ∧ W.cell? (a.add (i * 2 + 1)) = some (.int .i64 (intOf (V1 i))) := by
      intro i hi
      obtain ⟨h0, h1, h2, h3⟩ := hx i hi
      obtain ⟨a0, e0, -, w0⟩ := DataW.trod_int Tryd.underlying3 h2
      obtain ⟨a1, e1, -, w1⟩ := DataW.trod_int Tryd.underlying3 h3
      simp only [List.cons.injEq, and_true] at e0 e1
      rw [e0] at h0 ⊢; rw [e1] at h1 ⊢
      exact ⟨i64_wf w0, i64_wf w1, h0, h1⟩
    refine ⟨some a, len, m, (List.range len).map fun i => (intOf (V0 i), intOf (V1 i)), hv, by simp, hl, hc, ?_, fun q => (by cases q), ?_⟩
    · intro x hx
      obtain ⟨i, hi, rfl⟩ := List.mem_map.1 hx
      have hi := List.mem_range.1 hi
      exact ⟨(key i (by omega)).1, (key i (by omega)).2.1⟩
    · intro a' ha j u hj
      cases ha
      obtain ⟨i, x, hi, hc⟩ := spCells_at _ j u hj
      rw [List.getElem?_map] at hi
      have hil : i < len := by
        rcases Nat.lt_or_ge i len with q | q
        · exact q
        · rw [List.getElem?_eq_none (by simpa using q)] at hi; cases hi
      rw [List.getElem?_range hil] at hi
      simp only [Option.map_some, Option.some.injEq] at hi
      subst hi
      rcases hc with ⟨rfl, rfl⟩ | ⟨rfl, rfl⟩
      · exact (key i (by omega)).2.2.1
      · exact (key i (by omega)).2.2.2

/-- a segment of any numbers, with few blocks and a short payload -/
def Seg.raw (x : Seg) : Prop := In64 x.fp ∧ In64 x.tp ∧ In64 x.sq ∧ In64 x.ack ∧ In64 x.win ∧ In64 x.mss ∧ x.bl.length ≤ 6 ∧ (∀ b ∈ x.bl, In64 b.1 ∧ In64 b.2) ∧ x.s.size ≤ 1100
/-- what cut returns: some short segment -/
def CutP (w : World) (e : Ending) (w' : World) : Prop := ∃ (x : Seg) (A : Option Addr) (c : Nat), x.raw ∧ e = .returned (x.val A c) ∧ Bks w' A x.bl.length x.bl ∧ Below w.heap.size w w'
theorem cut_any (fp tp sq ack : Int) (syn fin rst ha : Bool) (win mss : Int) (sacks : Bool) (A : Option Addr) (n c : Nat) (bl : List (Int × Int)) (s : ByteArray) (w : World) (hfp : In64 fp) (htp : In64 tp) (hsq : In64 sq) (hack : In64 ack) (hwin : In64 win) (hmss : In64 mss) (hA : ArgB w A n c bl) :
    Calls Tryd.prog 8 #[.agg #[.int .i64 fp, .int .i64 tp, .int .i64 sq, .int .i64 ack, .bool syn, .bool fin, .bool rst, .bool ha, .int .i64 win, .int .i64 mss, .bool sacks, .slice A n c, .string s]] w (CutP w) := by
  obtain ⟨hl, hnc, hcm, hin, hno, hsm⟩ := hA
  have hm6 : min n 6 ≤ 6 := Nat.min_le_right _ _
  have hmn : min n 6 ≤ n := Nat.min_le_left _ _
  have hk : min (s.size : Int) 1100 = ((min s.size 1100 : Nat) : Int) := by omega
  have he : (s.extract 0 (min s.size 1100)).size ≤ 1100 := by rw [ByteArray.size_extract]; omega
  cases A with
  | none =>
    obtain ⟨rfl, rfl⟩ := hno rfl
    refine (cut_none fp tp sq ack syn fin rst ha win mss sacks s (min s.size 1100) w hk (Nat.min_le_left _ _)).mono ?_
    rintro e w' ⟨A, c, rfl, hb, hB⟩
    exact ⟨⟨fp, tp, sq, ack, syn, fin, rst, ha, win, mss, sacks, [], s.extract 0 (min s.size 1100)⟩, A, c, ⟨hfp, htp, hsq, hack, hwin, hmss, Nat.zero_le _, fun b hb => (by cases hb), he⟩, rfl, hb, hB⟩
  | some a =>
    refine (cut_some fp tp sq ack syn fin rst ha win mss sacks a n c bl s (min n 6) (min s.size 1100) w (by omega) hk hmn hm6 hnc (Nat.min_le_left _ _) hl (hsm a rfl)).mono ?_
    rintro e w' ⟨A, c', rfl, hb, hB⟩
    have hlm : (bl.take (min n 6)).length = min n 6 := by rw [List.length_take]; omega
    refine ⟨⟨fp, tp, sq, ack, syn, fin, rst, ha, win, mss, sacks, bl.take (min n 6), s.extract 0 (min s.size 1100)⟩, A, c', ⟨hfp, htp, hsq, hack, hwin, hmss, by show (bl.take (min n 6)).length ≤ 6; omega, fun b hb => hin b (List.mem_of_mem_take hb), he⟩, ?_, ?_, hB⟩
    · unfold Seg.val; dsimp only; rw [hlm]
    · dsimp only; rw [hlm]; exact hb
/-- SegOf of a short segment -/
theorem segOf_raw (x : Seg) (A : Option Addr) (c : Nat) (kind : Int) (w : World) (hx : x.raw) (hk : In64 kind) (hb : Bks w A x.bl.length x.bl) :
    Calls Tryd.prog 7 #[x.val A c, .int .i64 kind] w (SegPost w) := by
  obtain ⟨h0, h1, h2, h3, h4, h5, h6, h7, h8⟩ := hx
  exact segOf_any x.fp x.tp x.sq x.ack x.syn x.fin x.rst x.ha x.win x.mss x.sacks A x.bl.length c x.bl x.s kind w h0 h1 h2 h3 h4 h5 hk (by omega) h7 hb
theorem Bks.stN {B : Nat} {t : TypeId} {A : Option Addr} {n : Nat} {l : List (Int × Int)} (ht : t ≠ 73) : ∀ (vs : List Value) (W : World) (k : Nat) (arr : Array Value) (_ : Bks W A n l) (_ : W.heap[B]? = some (.cells arr t (0, 0))), Bks (stN W B k vs) A n l
  | [], _, _, _, h, _ => h
  | v :: vs, _, k, arr, h, hB => Bks.stN ht vs _ (k + 1) (arr.setIfInBounds k v) (Bks.setT h (p := ⟨B, k, none⟩) hB ht v) (block_setCell hB)
theorem enc_le (p q : Int) (y : Seg) (h : y.ok) : (y.enc p q).length ≤ 1100 := by
  rw [enc_length]
  have h1 := h.2.2.1.1.1
  have h2 := h.2.2.2
  unfold VS at h2
  split at h2 <;> omega
theorem put4S (n : Int) (w : World) (h0 : 0 ≤ n) (h1 : n < 4294967296) : Calls Tryd.prog 70 #[.int .i64 n, .int .i64 4] w fun e w' => e = .returned (.tuple #[.string ⟨(be 4 n).toArray⟩, .int .i64 0]) ∧ Below w.heap.size w w' := put4 n w h0 h1
theorem put2S (n : Int) (w : World) (h0 : 0 ≤ n) (h1 : n < 65536) : Calls Tryd.prog 70 #[.int .i64 n, .int .i64 2] w fun e w' => e = .returned (.tuple #[.string ⟨(be 2 n).toArray⟩, .int .i64 0]) ∧ Below w.heap.size w w' := put2 n w h0 h1
/-- .. with the cells laid open -/
def SegPostL (w : World) (e : Ending) (w' : World) : Prop := ∃ (x : Seg) (A : Option Addr) (c : Nat), x.ok ∧ e = .returned (.agg #[.int .i64 x.fp, .int .i64 x.tp, .int .i64 x.sq, .int .i64 x.ack, .bool x.syn, .bool x.fin, .bool x.rst, .bool x.ha, .int .i64 x.win, .int .i64 x.mss, .bool x.sacks, .slice A x.bl.length c, .string x.s]) ∧ Bks w' A x.bl.length x.bl ∧ Below w.heap.size w w'
theorem segOf_lit (x : Seg) (A : Option Addr) (c : Nat) (kind : Int) (w : World) (hx : x.raw) (hk : In64 kind) (hb : Bks w A x.bl.length x.bl) :
    Calls Tryd.prog 7 #[x.val A c, .int .i64 kind] w (SegPostL w) := segOf_raw x A c kind w hx hk hb
end Go.Proofs.YtmgjcjacoegocaaDoor.Sg
