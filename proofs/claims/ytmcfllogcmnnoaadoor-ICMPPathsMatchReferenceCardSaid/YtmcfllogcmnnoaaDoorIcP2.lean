/-
  Both tables of path MTUs side by side, holding the same entries or not.
-/
import Derived.Test.YtmcfllogcmnnoaaDoorIcP1
import Derived.Test.YtmcfllogcmnnoaaDoorIcA
namespace Go.Proofs.YtmcfllogcmnnoaaDoor.Ic
set_option maxRecDepth 100000
open Go.RowKit Go.Proofs.YtmcfllogcmnnoaaDoor.Wire Go.Proofs.YtmcfllogcmnnoaaDoor.Rw

theorem slP_kept {row : Option Nat} {A : Option Addr} {c : Nat} {l : List En} {W W' : World} (h : SlP row A c l W) (hk : ∀ g, row = some g → W'.heap[g]? = W.heap[g]?) : SlP row A c l W' := by
  cases row with
  | none => exact h
  | some g =>
    obtain ⟨h1, ⟨cur, h2, h3⟩, h4⟩ := h
    exact ⟨h1, ⟨cur, (hk g rfl).trans h2, h3⟩, h4⟩
/-- both tables, made by the law itself: all of them lies at or behind b0 -/
structure Duo (b0 : Nat) (W0 : World) (B B2 : Nat) (l l2 : List En) (W : World) : Prop where
  ex : ∃ (row : Option Nat) (D : Option Addr) (d : Nat), IsP row B l W ∧ (∀ g, row = some g → b0 ≤ g) ∧ RefP W b0 B2 D d l2 ∧ ∀ q, (q = B2 ∨ BK D q) → q ≠ B ∧ row ≠ some q
  k1 : Kept l
  k2 : Kept l2
  at1 : b0 ≤ B
  at2 : b0 ≤ B2
  below : Below b0 W0 W
  size : b0 ≤ W.heap.size
section
variable {b0 B B2 : Nat} {W0 W W' : World} {l l2 : List En}
theorem Duo.later (h : Duo b0 W0 B B2 l l2 W) (hb : Below W.heap.size W W') : Duo b0 W0 B B2 l l2 W' := by
  obtain ⟨⟨row, D, d, h1, h2, h3, h4⟩, k1, k2, a1, a2, b, s⟩ := h
  exact ⟨⟨row, D, d, h1.below hb, h2, h3.below hb, h4⟩, k1, k2, a1, a2, b.trans (hb.mono s), Nat.le_trans s hb.size⟩
theorem duo_lower (now tt size : Int) (h : Duo b0 W0 B B2 l l2 W) : Calls Tryd.prog 30 #[.pointer (some ⟨B, 0, none⟩), .int .i64 now, .int .i64 tt, .int .i64 size] W fun e w' =>
    e = .returned (.bool (lowB l now tt size)) ∧ Duo b0 W0 B B2 (lowL l now tt size) l2 w' := by
  obtain ⟨⟨row, D, d, h1, h2, h3, h4⟩, k1, k2, a1, a2, b, s⟩ := h
  refine (lower_any row B l now tt size W h1 k1).mono ?_
  rintro e w' ⟨rfl, row', q1, q2, q3⟩
  refine ⟨rfl, ⟨row', D, d, q1, fun g hg => ?_, h3.kept (fun q hq => q3.block q (h3.lt hq) (h4 q hq).1 (h4 q hq).2), fun q hq => ⟨(h4 q hq).1, fun e => ?_⟩⟩, kept_low k1 now tt size, k2, a1, a2, b.trans (q3.toBelow a1 h2 s), Nat.le_trans s q3.size⟩
  · rcases q2 with q | ⟨g2, q, hq⟩
    · exact h2 g (by rw [← q, hg])
    · rw [q] at hg; cases hg; omega
  · rcases q2 with r | ⟨g2, r, hr⟩
    · exact (h4 q hq).2 (by rw [← r, e])
    · rw [r] at e; cases e; have := h3.lt hq; omega
theorem duo_rlower (now tt size : Int) (h : Duo b0 W0 B B2 l l2 W) : Calls Tryd.prog 31 #[.pointer (some ⟨B2, 0, none⟩), .int .i64 now, .int .i64 tt, .int .i64 size] W fun e w' =>
    e = .returned (.bool (lowB l2 now tt size)) ∧ Duo b0 W0 B B2 l (lowL l2 now tt size) w' := by
  obtain ⟨⟨row, D, d, h1, h2, h3, h4⟩, k1, k2, a1, a2, b, s⟩ := h
  refine (rlower_ref now tt size W h3 k2 s).mono ?_
  rintro e w' ⟨rfl, D', d', q1, q2, q3⟩
  rw [rlowL_eq k2] at q1
  rw [rlowB_eq k2]
  have hB := h1.lt
  have hkB : ∀ q, q ≠ B2 → q < W.heap.size → w'.heap[q]? = W.heap[q]? := fun q hq hl => q3.block q hl hq (fun e => by cases e)
  obtain ⟨h0, A, c, p1, p2⟩ := h1
  have hrow : ∀ g, row = some g → g ≠ B2 ∧ g < W.heap.size := fun g hg => ⟨fun e => (h4 B2 (.inl rfl)).2 (by rw [hg, e]), SlP.lt p2 g hg⟩
  refine ⟨rfl, ⟨row, D', d', ⟨h0, A, c, (hkB B (fun e => (h4 B2 (.inl rfl)).1 e.symm) hB).trans p1, slP_kept p2 (fun g hg => hkB g (hrow g hg).1 (hrow g hg).2)⟩, h2, q1, fun q hq => ?_⟩, k1, kept_low k2 now tt size, a1, a2, b.trans (q3.toBelow a2 (fun g hg => by cases hg) s), Nat.le_trans s q3.size⟩
  have hold : (q = B2 ∨ BK D q) ∨ W.heap.size ≤ q := hq.elim (fun r => .inl (.inl r)) (fun r => (q2 q r).imp .inr id)
  rcases hold with r | r
  · exact h4 q r
  · exact ⟨by omega, fun e => by have := (hrow q e).2; omega⟩
theorem duo_size (now tt mtu : Int) (h : Duo b0 W0 B B2 l l2 W) : Calls Tryd.prog 33 #[.pointer (some ⟨B, 0, none⟩), .int .i64 now, .int .i64 tt, .int .i64 mtu] W fun e w' =>
    e = .returned (.int .i64 (sizeE l now tt mtu)) ∧ Duo b0 W0 B B2 l l2 w' := by
  obtain ⟨row, D, d, h1, h2, h3, h4⟩ := h.ex
  refine (size_any row B l now tt mtu W h1 h.k1).mono ?_
  rintro e w' ⟨rfl, hb⟩
  exact ⟨rfl, h.later hb⟩
theorem duo_rsize (now tt mtu : Int) (h : Duo b0 W0 B B2 l l2 W) : Calls Tryd.prog 34 #[.pointer (some ⟨B2, 0, none⟩), .int .i64 now, .int .i64 tt, .int .i64 mtu] W fun e w' =>
    e = .returned (.int .i64 (sizeE l2 now tt mtu)) ∧ Duo b0 W0 B B2 l l2 w' := by
  obtain ⟨row, D, d, h1, h2, h3, h4⟩ := h.ex
  refine (rsize_ref now tt mtu W h3 h.k2).mono ?_
  rintro e w' ⟨rfl, rfl⟩
  exact ⟨by rw [rsizeE_eq h.k2], h⟩
theorem duo_len (h : Duo b0 W0 B B2 l l2 W) : Calls Tryd.prog 32 #[.pointer (some ⟨B, 0, none⟩)] W fun e w' =>
    e = .returned (.int .i64 l.length) ∧ Duo b0 W0 B B2 l l2 w' := by
  obtain ⟨row, D, d, h1, h2, h3, h4⟩ := h.ex
  refine (plen_any row B l W h1).mono ?_
  rintro e w' ⟨rfl, hb⟩
  exact ⟨rfl, h.later hb⟩
theorem Duo.cell (h : Duo b0 W0 B B2 l l2 W) : ∃ (D : Option Addr) (d : Nat), W.cell? ⟨B2, 0, none⟩ = some (.slice D l2.length d) := by
  obtain ⟨row, D, d, h1, h2, h3, h4⟩ := h.ex
  exact ⟨D, d, h3.tcell.1⟩
/-- the tables as they are made -/
theorem duo_new {B2' : Nat} (w : World) (h : Own b0 b0 [] w W) (hb : B2' = W.heap.size) : Duo b0 w b0 B2' [] [] (W.alloc (.cells #[.slice none 0 0] 57)) := by
  subst hb
  obtain ⟨⟨row, h1, h2⟩, h3, h4, h5, h6⟩ := h
  have hl := h1.lt
  refine ⟨⟨row, none, 0, h1.below ((Below.refl _ _).alloc (Nat.le_refl _) _), h2, ⟨alloc_new W _, ORow.nil _ _ _ _ _⟩, fun q hq => ?_⟩, h3, h3, Nat.le_refl _, h6, (below_alloc (Below.refl _ _)).mono h6 |> h5.trans, by simp; omega⟩
  have e : q = W.heap.size := hq.elim id (fun r => absurd r (bk_none q))
  obtain ⟨h0, A, c, p1, p2⟩ := h1
  exact ⟨by omega, fun r => by have := SlP.lt p2 q r; omega⟩
end
end Go.Proofs.YtmcfllogcmnnoaaDoor.Ic
