/-
  One table, made since w, that owns none of the blocks K: Put, Tick and Sizes at it.
-/
import Derived.Test.YtmgjcjacoegocaaDoorReLaw0
namespace Go.Proofs.YtmgjcjacoegocaaDoor.Re
set_option maxRecDepth 100000
open Go.RowKit Go.Proofs.YtmgjcjacoegocaaDoor.Wire
open Go.Proofs.YtmgjcjacoegocaaDoor.Ip (Pk vlenB VLen)

structure OneT (w : World) (T : Nat) (A : List (Ky × Hf)) (K : Nat → Prop) (W : World) : Prop where
  ex : ∃ S : Nat → Prop, TT W T A S ∧ ∀ q, S q → w.heap.size ≤ q ∧ ¬ K q
  bel : Below w.heap.size w W
section
variable {w W W' : World} {T : Nat} {A : List (Ky × Hf)} {K : Nat → Prop}
theorem OneT.below (h : OneT w T A K W) (hb : Below W.heap.size W W') : OneT w T A K W' := by
  obtain ⟨S, h1, h2⟩ := h.ex
  exact ⟨⟨S, h1.below hb, h2⟩, below_call h.bel hb⟩
/-- blocks that are not there yet are none of the table's -/
theorem OneT.more (h : OneT w T A K W) {K' : Nat → Prop} (hk : ∀ q, K' q → K q ∨ W.heap.size ≤ q) : OneT w T A K' W := by
  obtain ⟨S, h1, h2⟩ := h.ex
  refine ⟨⟨S, h1, fun q hq => ⟨(h2 q hq).1, fun r => ?_⟩⟩, h.bel⟩
  rcases hk q r with s | s
  · exact (h2 q hq).2 s
  · have := h1.lt q hq; omega
/-- a call that changes blocks of K alone -/
theorem OneT.grown (h : OneT w T A K W) {row : Option Nat} (hg : W.grownBy W' row) (hr : ∀ k, row = some k → K k ∧ w.heap.size ≤ k) : OneT w T A K W' := by
  obtain ⟨S, h1, h2⟩ := h.ex
  have hz := h.bel.size
  refine ⟨⟨S, h1.kept hg.size (fun q hq => hg.block q (h1.lt q hq) (fun e => (h2 q hq).2 (hr q e.symm).1)), h2⟩, ?_⟩
  exact ⟨hg.os.trans h.bel.os, hg.tape.trans h.bel.tape, hg.output.trans h.bel.output, Nat.le_trans hz hg.size, fun k hk => (hg.block k (by omega) (fun e => by have := (hr k e.symm).2; omega)).trans (h.bel.block k hk)⟩
theorem OneT.setCell (h : OneT w T A K W) {p : Addr} (hp : K p.block ∧ w.heap.size ≤ p.block) (u : Value) : OneT w T A K (W.setCell p u) :=
  h.grown (only_set (World.grownBy.refl W (some p.block)) (.inl rfl) u) (fun k e => by cases e; exact hp)
theorem OneT.put (h : OneT w T A K W) (now : Int) (p : Pk) (A' : List (Ky × Hf)) (q : Pk) (ok : Bool) (err : Int) (he : putA A now p = (A', q, ok, err)) (hs : p.s.size ≤ 9223372036854775807) (hL : A.length < 8 ∨ keyOf p ∈ A.map (·.1)) (hl9 : A.length ≤ 900) (hnow : In64 now) :
    Calls Tryd.prog 37 #[.pointer (some ⟨T, 0, none⟩), .int .i64 now, .agg #[.int .i64 p.f, .int .i64 p.t, .int .i64 p.pr, .int .i64 p.ttl, .int .i64 p.id, .bool p.df, .bool p.mf, .int .i64 p.off, .string p.s]] W fun x w' => x = PutRes q ok err ∧ OneT w T A' (fun k => K k ∧ k < W.heap.size) w' ∧ W.heap.size ≤ w'.heap.size ∧ ∀ k, K k → k < W.heap.size → w'.heap[k]? = W.heap[k]? := by
  obtain ⟨S, h1, h2⟩ := h.ex
  refine (put_any T A S now p W h1 hs hL hl9 hnow).mono ?_
  rintro x w' ⟨hx, S', t', hc, hn⟩
  rw [he] at hx t'
  have hz := h.bel.size
  refine ⟨hx, ⟨⟨S', t', fun q hq => ?_⟩, ?_⟩, hc.size, fun k hk1 hk2 => hc.block k hk2 (fun r => (h2 k r).2 hk1)⟩
  · rcases hn q hq with r | r
    · exact ⟨(h2 q r).1, fun s => (h2 q r).2 s.1⟩
    · exact ⟨by omega, fun s => by omega⟩
  · exact ⟨hc.os.trans h.bel.os, hc.tape.trans h.bel.tape, hc.output.trans h.bel.output, Nat.le_trans hz hc.size, fun k hk => (hc.block k (by omega) (fun r => by have := (h2 k r).1; omega)).trans (h.bel.block k hk)⟩
theorem OneT.ofNew {x : Ending} (hb : Below w.heap.size w W) (h : NewTT W x W') : ∃ T, x = .returned (.pointer (some ⟨T, 0, none⟩)) ∧ OneT w T [] (fun q => q < W.heap.size) W' ∧ Below W.heap.size W W' := by
  obtain ⟨T, S, rfl, h1, h2, h3⟩ := h
  exact ⟨T, rfl, ⟨⟨S, h1, fun q hq => ⟨by have := h3 q hq; have := hb.size; omega, fun r => by have := h3 q hq; omega⟩⟩, below_call hb h2⟩, h2⟩
end
end Go.Proofs.YtmgjcjacoegocaaDoor.Re
