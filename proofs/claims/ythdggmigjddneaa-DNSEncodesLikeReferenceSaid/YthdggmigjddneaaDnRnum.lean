/-
  The contract of the reference's Reader.num.
-/
import Derived.Test.YthdggmigjddneaaDnRn
import Derived.Test.YthdggmigjddneaaRef01
namespace Go.Proofs.Ythdggmigjddneaa.Dn
set_option maxRecDepth 100000
open Go.RowKit Go.Proofs.Ythdggmigjddneaa.Wire

/-- the reference's reader in memory -/
def rrO (s : ByteArray) (a : Nat) (bad : Bool) : Obj := .cells #[.string s, .int .i64 (a : Int), .bool bad] 78
theorem bytesAt_rest (s : ByteArray) (a k : Nat) : bytesAt s a k = (restOf s a).take k := rfl
theorem bytesAt_pow (s : ByteArray) (a k : Nat) : 0 ≤ num (bytesAt s a k) ∧ num (bytesAt s a k) < 256 ^ k := by
  obtain ⟨h0, h⟩ := num_bd (bytesAt s a k)
  refine ⟨h0, Int.lt_of_lt_of_le h ?_⟩
  have hl : (bytesAt s a k).length ≤ k := by unfold bytesAt; rw [List.length_take]; omega
  have hn : (256 : Nat) ^ (bytesAt s a k).length ≤ 256 ^ k := Nat.pow_le_pow_right (by omega) hl
  exact_mod_cast hn
theorem grown_drewN {a w : World} {row : Option Nat} (h : a.grownBy w row) (n : Nat) : a.grownBy (w.drewN n) row := ⟨h.os, h.tape, h.output, h.size, h.block⟩
set_option maxHeartbeats 4000000 in
theorem rnum_walk (B : Nat) (s : ByteArray) (a k a2 : Nat) (bad b2 : Bool) (n er : Int) (W : World) (hB : W.heap[B]? = some (rrO s a bad)) (hs : s.size ≤ 1000000) (ha : a ≤ s.size) (hk : k ≤ 4)
    (HG : Hid (∀ W, Calls Try.prog 50 #[.string s, .int .i64 (a : Int), .int .i64 (k : Int)] W fun e w' => e = .returned (.tuple #[.int .i64 n, .int .i64 er]) ∧ W = w'))
    (h2 : (a2 : Int) = min ((a : Int) + (k : Int)) (s.size : Int)) (hb2 : b2 = (bad || er != 0)) :
    Calls Try.prog 38 #[.pointer (some ⟨B, 0, none⟩), .int .i64 (k : Int)] W fun e w' => e = .returned (.int .i64 n) ∧ w'.heap[B]? = some (rrO s a2 b2) ∧ W.grownBy w' (some B) := by
  have HX := Lib.hid hB; clear hB
  have Hw2 := Lib.hid h2; clear h2
  unfold rrO at HX ⊢
  have qX0 := (cell_of_block (k := 0) HX.out rfl).1; have zX0 := (cell_of_block (k := 0) HX.out rfl).2; have qX1 := (cell_of_block (k := 1) HX.out rfl).1; have zX1 := (cell_of_block (k := 1) HX.out rfl).2; have qX2 := (cell_of_block (k := 2) HX.out rfl).1; have zX2 := (cell_of_block (k := 2) HX.out rfl).2; have lt_X := blk_lt HX.out
  have HGq : Hid (∀ W, Calls Try.prog 50 #[.string s, .int .i64 (a : Int), .int .i64 (k : Int)] W fun e w' => e = .returned (.tuple #[.int .i64 n, .int .i64 er]) ∧ w' = W) := Lib.hid fun W => (HG.out W).mono fun e w' h => ⟨h.1, h.2.symm⟩
  cases bad
  all_goals
    go_enter Try.func38, Try.ntmps38
    go_wp2_with fail
    go_quiet (exact Calls.quiet_of_same (HGq.out _))
    have h1 : Hid ((W.drewN nq).heap[B]? = _) := Lib.hid HX.out
    have hg := grown_drewN (only_refl W B) nq
    generalize W.drewN nq = W1 at *
    clear qX0 zX0 qX1 zX1 qX2 zX2 lt_X HX HGq HG
    have HX := h1; clear h1
    have qX0 := (cell_of_block (k := 0) HX.out rfl).1; have zX0 := (cell_of_block (k := 0) HX.out rfl).2; have qX1 := (cell_of_block (k := 1) HX.out rfl).1; have zX1 := (cell_of_block (k := 1) HX.out rfl).2; have qX2 := (cell_of_block (k := 2) HX.out rfl).1; have zX2 := (cell_of_block (k := 2) HX.out rfl).2; have lt_X := blk_lt HX.out
    go_upto_region 3 with fail
    have h2 := cells_eq (b := #[.string s, .int .i64 (a : Int), .bool b2]) (block_setCell (k := 2) (v := .bool b2) HX.out) rfl
    have hg2 := only_set (p := ⟨B, 2, none⟩) hg (.inl rfl) (.bool b2)
    simp only [Bool.false_or, Bool.true_or] at hb2
    subst hb2
    generalize World.setCell W1 ⟨B, 2, none⟩ _ = W2 at *
    clear qX0 zX0 qX1 zX1 qX2 zX2 lt_X HX hg
    have HX := Lib.hid h2; clear h2
    have qX0 := (cell_of_block (k := 0) HX.out rfl).1; have zX0 := (cell_of_block (k := 0) HX.out rfl).2; have qX1 := (cell_of_block (k := 1) HX.out rfl).1; have zX1 := (cell_of_block (k := 1) HX.out rfl).2; have qX2 := (cell_of_block (k := 2) HX.out rfl).1; have zX2 := (cell_of_block (k := 2) HX.out rfl).2; have lt_X := blk_lt HX.out
    have hwr : IntKind.i64.wrap ((a : Int) + (k : Int)) = (a : Int) + (k : Int) := IntWalk.i64_in _ (by omega)
    go_wp2_with fail
    go_region
    go_wp2_with fail
    all_goals
      first
        | rw [Hw2.out]
        | rw [show (a2 : Int) = (s.size : Int) from by have := Hw2.out; omega]
        | rw [show (a2 : Int) = (a : Int) + (k : Int) from by have := Hw2.out; omega]
      go_ret
      exact ⟨rfl, cells_eq (block_setCell (k := 1) HX.out) rfl, grown_drewN (only_set (p := ⟨B, 1, none⟩) hg2 (.inl rfl) _) 1⟩
/-- what Reader.num gives: the number if the string reaches that far; Bad is set otherwise, and never taken back -/
theorem rnum_any (B : Nat) (s : ByteArray) (a k : Nat) (bad : Bool) (W : World) (hB : W.heap[B]? = some (rrO s a bad)) (hs : s.size ≤ 1000000) (ha : a ≤ s.size) (h1 : 1 ≤ k) (h4 : k ≤ 4) :
    Calls Try.prog 38 #[.pointer (some ⟨B, 0, none⟩), .int .i64 (k : Int)] W fun e w' => (∃ (n : Int) (a' : Nat) (b' : Bool), e = .returned (.int .i64 n) ∧ w'.heap[B]? = some (rrO s a' b') ∧ a' ≤ s.size ∧ (0 ≤ n ∧ n < 256 ^ k) ∧ (rdNum k (restOf s a) = some (n, restOf s a') ∧ b' = bad ∨ rdNum k (restOf s a) = none ∧ b' = true)) ∧ W.grownBy w' (some B) := by
  have hl : (restOf s a).length = s.size - a := by unfold restOf; rw [List.length_drop]; rfl
  by_cases h : a + k ≤ s.size
  · refine (rnum_walk B s a k (a + k) bad bad (num (bytesAt s a k)) 0 W hB hs ha h4 (Lib.hid fun W => rget_ok s a k W h1 h4 (by omega) h) (by omega) (by simp)).mono ?_
    rintro e w' ⟨rfl, h2, h3⟩
    refine ⟨⟨_, _, _, rfl, h2, h, bytesAt_pow s a k, .inl ⟨?_, rfl⟩⟩, h3⟩
    unfold rdNum
    rw [if_neg (by omega), bytesAt_rest]
    unfold restOf; rw [List.drop_drop]
  · refine (rnum_walk B s a k s.size bad true 0 10 W hB hs ha h4 (Lib.hid fun W => rget_no s a k W (by omega) (by omega)) (by omega) (by cases bad <;> rfl)).mono ?_
    rintro e w' ⟨rfl, h2, h3⟩
    refine ⟨⟨_, _, _, rfl, h2, Nat.le_refl _, ⟨by omega, Int.pow_pos (by omega)⟩, .inr ⟨?_, rfl⟩⟩, h3⟩
    unfold rdNum
    rw [if_pos (by omega)]
end Go.Proofs.Ythdggmigjddneaa.Dn
