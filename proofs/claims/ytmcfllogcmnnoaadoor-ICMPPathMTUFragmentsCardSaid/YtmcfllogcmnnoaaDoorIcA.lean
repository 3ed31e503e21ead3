/-
  Helpers of the laws of chapter 8: pick, a table with one or two entries, what calls on a table of its own leave.
-/
import Derived.Test.YtmcfllogcmnnoaaDoorIcSane
import Derived.Test.YtmcfllogcmnnoaaDoorLaw06a
namespace Go.Proofs.YtmcfllogcmnnoaaDoor.Ic
set_option maxRecDepth 100000
open Go.RowKit Go.Proofs.YtmcfllogcmnnoaaDoor.Wire Go.Proofs.YtmcfllogcmnnoaaDoor.Gen
open Go.Proofs.YtmcfllogcmnnoaaDoor.Ip (In64)

set_option maxHeartbeats 400000 in
theorem pick8_any (c n : Int) (w : World) (h1 : In64 c) (h : 1 ≤ n) (h' : n ≤ 4294967296) :
    Calls Tryd.prog 23 #[.int .i64 c, .int .i64 n] w fun e w' => e = .returned (.int .i64 (pick c n)) ∧ w' = w := by
  obtain ⟨h1, h2⟩ := h1
  have hne : (n == 0) = false := by simp; omega
  by_cases hc : c < 0
  · go_enter Tryd.func23, Tryd.ntmps23
    go_wp2
    go_ret
    exact ⟨ret_int (by unfold pick; rw [if_pos hc, ← Int.neg_tmod, Int.tmod_eq_emod_of_nonneg (by omega)]), rfl⟩
  · go_enter Tryd.func23, Tryd.ntmps23
    go_wp2
    go_ret
    exact ⟨ret_int (by unfold pick; rw [if_neg (by omega)]), rfl⟩
theorem lowL_nil (now tt size : Int) (h : lowOk now tt size) : lowB [] now tt size = true ∧ lowL [] now tt size = [⟨tt, size, now⟩] := by
  unfold lowB lowL
  rw [if_pos h, if_pos h]
  simp [pushE]
theorem lowL_two (now a n b m : Int) (h : lowOk now b m) (hne : a ≠ b) : lowL [⟨a, n, now⟩] now b m = [⟨a, n, now⟩, ⟨b, m, now⟩] := by
  have hf : freshB now ⟨a, n, now⟩ = true := by unfold freshB; simp; omega
  unfold lowL
  rw [if_pos h]
  simp [hf, toB, hne, pushE]
theorem sizeE_first (l : List En) (a n now t mtu : Int) : sizeE (⟨a, n, now⟩ :: l) t a mtu = if t < now + 600 then min mtu n else mtu := by
  unfold sizeE
  simp [toB, freshB]
theorem kept_one (a n now : Int) (h : lowOk now a n) : Kept [⟨a, n, now⟩] := by
  have := kept_low kept_nil now a n
  rwa [(lowL_nil now a n h).2] at this
/-- a table that the law itself has made: all of it lies at or behind b0 -/
structure Own (b0 B : Nat) (l : List En) (W0 W : World) : Prop where
  tab : ∃ row, IsP row B l W ∧ ∀ g, row = some g → b0 ≤ g
  kept : Kept l
  at_ : b0 ≤ B
  below : Below b0 W0 W
  size : b0 ≤ W.heap.size
theorem Own.later {b0 B : Nat} {l : List En} {W0 W W' : World} (h : Own b0 B l W0 W) (hb : Below W.heap.size W W') : Own b0 B l W0 W' := by
  obtain ⟨⟨row, h1, h2⟩, h3, h4, h5, h6⟩ := h
  exact ⟨⟨row, h1.below hb, h2⟩, h3, h4, h5.trans (hb.mono h6), Nat.le_trans h6 hb.size⟩
theorem own_new (w : World) : Calls Tryd.prog 28 #[] w fun e w' => e = .returned (.pointer (some ⟨w.heap.size, 0, none⟩)) ∧ Own w.heap.size w.heap.size [] w w' := by
  refine (new_any w).mono ?_
  rintro e w' ⟨rfl, h1, h2, h3⟩
  exact ⟨rfl, ⟨⟨none, h1, fun g h => by cases h⟩, kept_nil, Nat.le_refl _, h2, by omega⟩⟩
theorem own_lower {b0 B : Nat} {l : List En} {W0 W : World} (now tt size : Int) (h : Own b0 B l W0 W) : Calls Tryd.prog 30 #[.pointer (some ⟨B, 0, none⟩), .int .i64 now, .int .i64 tt, .int .i64 size] W fun e w' =>
    e = .returned (.bool (lowB l now tt size)) ∧ Own b0 B (lowL l now tt size) W0 w' := by
  obtain ⟨⟨row, h1, h2⟩, h3, h4, h5, h6⟩ := h
  refine (lower_any row B l now tt size W h1 h3).mono ?_
  rintro e w' ⟨rfl, row', q1, q2, q3⟩
  refine ⟨rfl, ⟨⟨row', q1, fun g hg => ?_⟩, kept_low h3 now tt size, h4, h5.trans (q3.toBelow h4 h2 h6), Nat.le_trans h6 q3.size⟩⟩
  rcases q2 with q | ⟨g2, q, hq⟩
  · exact h2 g (by rw [← q, hg])
  · rw [q] at hg; cases hg; omega
theorem own_size {b0 B : Nat} {l : List En} {W0 W : World} (now tt mtu : Int) (h : Own b0 B l W0 W) : Calls Tryd.prog 33 #[.pointer (some ⟨B, 0, none⟩), .int .i64 now, .int .i64 tt, .int .i64 mtu] W fun e w' =>
    e = .returned (.int .i64 (sizeE l now tt mtu)) ∧ Own b0 B l W0 w' := by
  obtain ⟨row, h1, h2⟩ := h.tab
  refine (size_any row B l now tt mtu W h1 h.kept).mono ?_
  rintro e w' ⟨rfl, hb⟩
  exact ⟨rfl, h.later hb⟩
theorem own_len {b0 B : Nat} {l : List En} {W0 W : World} (h : Own b0 B l W0 W) : Calls Tryd.prog 32 #[.pointer (some ⟨B, 0, none⟩)] W fun e w' =>
    e = .returned (.int .i64 l.length) ∧ Own b0 B l W0 w' := by
  obtain ⟨row, h1, h2⟩ := h.tab
  refine (plen_any row B l W h1).mono ?_
  rintro e w' ⟨rfl, hb⟩
  exact ⟨rfl, h.later hb⟩
end Go.Proofs.YtmcfllogcmnnoaaDoor.Ic
