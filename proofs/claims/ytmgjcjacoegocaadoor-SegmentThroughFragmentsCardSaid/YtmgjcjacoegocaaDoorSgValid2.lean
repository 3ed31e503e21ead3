/-
  Contracts of segment.validBlocks and segment.Valid.
-/
import Derived.Test.YtmgjcjacoegocaaDoorSgValid
namespace Go.Proofs.YtmgjcjacoegocaaDoor.Sg
set_option maxRecDepth 100000
open Go.RowKit Go.Proofs.YtmgjcjacoegocaaDoor.Wire

theorem emp_size (s : ByteArray) : s.toList.isEmpty = decide (s.size = 0) := by
  rw [ByteArray.toList_eq, Bool.eq_iff_iff, List.isEmpty_iff_length_eq_zero, decide_eq_true_iff]; rfl
theorem B1_of {a b : Int} (h : (0 ≤ a ∧ a ≤ 4294967295) ∧ (0 ≤ b ∧ b ≤ 4294967295) ∧ a ≠ b) : B1 (a, b) := h
theorem VB_take_succ {bl : List (Int × Int)} {k : Nat} {x : Int × Int} (hk : bl[k]? = some x) (h : ∀ j y, j < k → bl[j]? = some y → B1 y) (hx : B1 x) (j : Nat) (y : Int × Int) (hj : j < k + 1) (hy : bl[j]? = some y) : B1 y := by
  rcases Nat.lt_succ_iff_lt_or_eq.1 hj with c | c
  · exact h j y c hy
  · subst c; rw [hk] at hy; cases hy; exact hx

set_option maxRecDepth 100000 in
set_option maxHeartbeats 4000000 in
theorem validBlocks_any (fp tp sq ack : Int) (syn fin rst ha : Bool) (win mss : Int) (sacks : Bool) (A : Option Addr) (n c : Nat) (bl : List (Int × Int)) (s : ByteArray) (w : World) (hn : n ≤ 9223372036854775807) (hb : Bks w A n bl) :
    Calls Tryd.prog 63 #[.agg #[.int .i64 fp, .int .i64 tp, .int .i64 sq, .int .i64 ack, .bool syn, .bool fin, .bool rst, .bool ha, .int .i64 win, .int .i64 mss, .bool sacks, .slice A n c, .string s]] w fun e w' => e = .returned (.bool (vbB ha bl)) ∧ Below w.heap.size w w' := by
  have HB0 := Lib.hid hb; clear hb
  have hl : bl.length = n := HB0.out.1
  have HL := Lib.hid hl; clear hl
  by_cases h3 : 3 < n
  · have hF : Hid (vbB ha bl = false) := Lib.hid (decide_eq_false fun h => by have := h.1.1; have := HL.out; omega)
    go_enter Tryd.func63, Tryd.ntmps63
    go_wp2
    go_ret
    exact ⟨ret_bool hF.out.symm, (Below.refl _ _).alloc (Nat.le_refl _) _⟩
  by_cases h4 : 0 < n ∧ ha = false
  · obtain ⟨h4, rfl⟩ := h4
    have hF : Hid (vbB false bl = false) := Lib.hid (decide_eq_false fun h => by have := h.1.2 rfl; have := HL.out; omega)
    go_enter Tryd.func63, Tryd.ntmps63
    go_wp2
    go_ret
    exact ⟨ret_bool hF.out.symm, (Below.refl _ _).alloc (Nat.le_refl _) _⟩
  have h5 : Hid (bl.length ≤ 3 ∧ (ha = false → bl.length = 0)) := Lib.hid ⟨by have := HL.out; omega, fun e => by have := HL.out; have : ¬ 0 < n := fun q => h4 ⟨q, e⟩; omega⟩
  have h6 : (ha = true ∧ 0 < n) ∨ ¬ 0 < n := by
    by_cases q : 0 < n
    · left; refine ⟨?_, q⟩
      cases ha
      · exact absurd ⟨q, rfl⟩ h4
      · rfl
    · right; exact q
  clear h4
  rcases h6 with ⟨rfl, h7⟩ | h7
  all_goals
    have hd3 : decide (3 < (n : Int)) = false := by simp; omega
  · have hd0 : decide (0 < (n : Int)) = true := by simp; omega
    go_enter Tryd.func63, Tryd.ntmps63
    have HB := (Below.refl w.heap.size w).alloc (Nat.le_refl _) (.cells #[.int .i64 fp, .int .i64 tp, .int .i64 sq, .int .i64 ack, .bool syn, .bool fin, .bool rst, .bool true, .int .i64 win, .int .i64 mss, .bool sacks, .slice A n c, .string s] 24)
    go_wp2
    clear hd0 hd3
    go_loopw [23] (fun i wr => ∃ k : Nat, k ≤ n ∧ i = .int .i64 (k : Int) ∧ (∀ (j : Nat) (y : Int × Int), j < k → bl[j]? = some y → B1 y) ∧ Below w.heap.size w wr) (fun i _ => n - (intOf i).toNat)
    case atStart => exact ⟨0, by omega, rfl, fun j y hj => by omega, HB⟩
    case round =>
      clear HB
      obtain ⟨k, hk, rfl, hok, HB⟩ := hrel
      have HO := Lib.hid hok; clear hok
      by_cases hlt : k < n
      · obtain ⟨g, a, b, rfl, hx, hg, c0, c1⟩ := HB0.out.at_ k hlt
        have HX := Lib.hid hx; clear hx
        have d0 := (HB.cell (p := ⟨g, k * 2, none⟩) hg).trans c0
        have d1 := (HB.cell (p := ⟨g, k * 2 + 1, none⟩) hg).trans c1
        clear c0 c1
        go_wp2
        all_goals
          (try simp only [beq_iff_eq, beq_eq_false_iff_ne] at *)
          first
            | (go_ret
               refine ⟨ret_bool (Eq.symm (decide_eq_false fun h => ?_)), below_alloc HB⟩
               have h1 := h.2 k _ HX.out
               unfold B1 at h1
               dsimp only at h1
               omega)
            | (go_roundw
               case rel => exact ⟨k + 1, by omega, by go_num, fun j y => VB_take_succ HX.out HO.out (B1_of (by omega)) j y, below_alloc HB⟩
               case measure => simp [intOf]; omega)
      · have hkn : k = n := by omega
        have HF : Hid (vbB true bl = true) := Lib.hid (decide_eq_true ⟨h5.out, fun j y hy => HO.out j y (by rw [hkn, ← HL.out]; exact (List.getElem?_eq_some_iff.1 hy).1) hy⟩)
        go_wp2
        go_ret
        exact ⟨ret_bool HF.out.symm, HB⟩
  · have hd0 : decide (0 < (n : Int)) = false := by simp; omega
    go_enter Tryd.func63, Tryd.ntmps63
    have HB := (Below.refl w.heap.size w).alloc (Nat.le_refl _) (.cells #[.int .i64 fp, .int .i64 tp, .int .i64 sq, .int .i64 ack, .bool syn, .bool fin, .bool rst, .bool ha, .int .i64 win, .int .i64 mss, .bool sacks, .slice A n c, .string s] 24)
    go_wp2
    clear hd0 hd3
    go_loopw [23] (fun i wr => ∃ k : Nat, k ≤ n ∧ i = .int .i64 (k : Int) ∧ (∀ (j : Nat) (y : Int × Int), j < k → bl[j]? = some y → B1 y) ∧ Below w.heap.size w wr) (fun i _ => n - (intOf i).toNat)
    case atStart => exact ⟨0, by omega, rfl, fun j y hj => by omega, HB⟩
    case round =>
      clear HB
      obtain ⟨k, hk, rfl, hok, HB⟩ := hrel
      have HO := Lib.hid hok; clear hok
      by_cases hlt : k < n
      · exact absurd hlt (by omega)
      · have hkn : k = n := by omega
        have HF : Hid (vbB ha bl = true) := Lib.hid (decide_eq_true ⟨h5.out, fun j y hy => HO.out j y (by rw [hkn, ← HL.out]; exact (List.getElem?_eq_some_iff.1 hy).1) hy⟩)
        go_wp2
        go_ret
        exact ⟨ret_bool HF.out.symm, HB⟩

set_option maxRecDepth 100000 in
set_option maxHeartbeats 4000000 in
theorem valid_any (fp tp sq ack : Int) (syn fin rst ha : Bool) (win mss : Int) (sacks : Bool) (A : Option Addr) (n c : Nat) (bl : List (Int × Int)) (s : ByteArray) (w : World) (hn : n ≤ 9223372036854775807) (hb : Bks w A n bl) :
    Calls Tryd.prog 27 #[.agg #[.int .i64 fp, .int .i64 tp, .int .i64 sq, .int .i64 ack, .bool syn, .bool fin, .bool rst, .bool ha, .int .i64 win, .int .i64 mss, .bool sacks, .slice A n c, .string s]] w fun e w' => e = .returned (.bool (vldB fp tp sq ack syn fin rst ha win mss sacks bl s.size)) ∧ Below w.heap.size w w' := by
  have HB0 := Lib.hid hb; clear hb
  have HL := Lib.hid HB0.out.1
  have H1 := Lib.hid fun w => validNumbers_any fp tp sq ack syn fin rst ha win mss sacks A n c s w
  have H2 := Lib.hid fun w => validFlags_any fp tp sq ack syn fin rst ha win mss sacks A n c s w
  have H3 : Hid (∀ w, Bks w A n bl → _) := Lib.hid fun w hb => validBlocks_any fp tp sq ack syn fin rst ha win mss sacks A n c bl s w hn hb
  have Hv : Hid (vldB fp tp sq ack syn fin rst ha win mss sacks bl s.size = (vnB fp tp sq ack ha win && vfB syn fin rst mss sacks && vbB ha bl && decide (VS syn rst s.size bl.length))) := Lib.hid (by unfold vldB; rw [Bool.eq_iff_iff, decide_eq_true_iff]; unfold vnB vfB vbB; simp only [Bool.and_eq_true, decide_eq_true_eq, Vld, and_assoc])
  generalize vldB fp tp sq ack syn fin rst ha win mss sacks bl s.size = res at *
  generalize vnB fp tp sq ack ha win = b1 at *
  generalize vfB syn fin rst mss sacks = b2 at *
  have HV3 : Hid (vbB ha bl = true → n ≤ 3) := Lib.hid fun h => by have := (of_decide_eq_true h).1.1; have := HL.out; omega
  generalize vbB ha bl = b3 at *
  have HB := (Below.refl w.heap.size w).alloc (Nat.le_refl _) (.cells #[.int .i64 fp, .int .i64 tp, .int .i64 sq, .int .i64 ack, .bool syn, .bool fin, .bool rst, .bool ha, .int .i64 win, .int .i64 mss, .bool sacks, .slice A n c, .string s] 24)
  have Hx := Lib.hid (alloc_new w (.cells #[.int .i64 fp, .int .i64 tp, .int .i64 sq, .int .i64 ack, .bool syn, .bool fin, .bool rst, .bool ha, .int .i64 win, .int .i64 mss, .bool sacks, .slice A n c, .string s] 24))
  have HBk := Lib.hid fun W (hb : Below w.heap.size w W) => HB0.out.below hb; clear HB0
  cases b1
  · go_enter Tryd.func27, Tryd.ntmps27
    go_wp2_with fail
    refine (H1.out _).mono ?_
    rintro e w1 ⟨rfl, hb⟩
    go_wp2
    go_ret
    exact ⟨ret_bool (by rw [Hv.out]; rfl), below_call HB hb⟩
  cases b2
  · go_enter Tryd.func27, Tryd.ntmps27
    go_wp2_with fail
    refine (H1.out _).mono ?_
    rintro e w1 ⟨rfl, hb⟩
    have Hx' := Lib.hid (bblock hb Hx.out); clear Hx; have Hx := Hx'; clear Hx'
    have HB' := below_call HB hb; clear HB hb; have HB := HB'; clear HB'; have hz := HB.size
    have qx0 := (cell_of_block (k := 0) Hx.out rfl).1; have zx0 := (cell_of_block (k := 0) Hx.out rfl).2; have qx1 := (cell_of_block (k := 1) Hx.out rfl).1; have zx1 := (cell_of_block (k := 1) Hx.out rfl).2; have qx2 := (cell_of_block (k := 2) Hx.out rfl).1; have zx2 := (cell_of_block (k := 2) Hx.out rfl).2; have qx3 := (cell_of_block (k := 3) Hx.out rfl).1; have zx3 := (cell_of_block (k := 3) Hx.out rfl).2; have qx4 := (cell_of_block (k := 4) Hx.out rfl).1; have zx4 := (cell_of_block (k := 4) Hx.out rfl).2; have qx5 := (cell_of_block (k := 5) Hx.out rfl).1; have zx5 := (cell_of_block (k := 5) Hx.out rfl).2; have qx6 := (cell_of_block (k := 6) Hx.out rfl).1; have zx6 := (cell_of_block (k := 6) Hx.out rfl).2; have qx7 := (cell_of_block (k := 7) Hx.out rfl).1; have zx7 := (cell_of_block (k := 7) Hx.out rfl).2; have qx8 := (cell_of_block (k := 8) Hx.out rfl).1; have zx8 := (cell_of_block (k := 8) Hx.out rfl).2; have qx9 := (cell_of_block (k := 9) Hx.out rfl).1; have zx9 := (cell_of_block (k := 9) Hx.out rfl).2; have qx10 := (cell_of_block (k := 10) Hx.out rfl).1; have zx10 := (cell_of_block (k := 10) Hx.out rfl).2; have qx11 := (cell_of_block (k := 11) Hx.out rfl).1; have zx11 := (cell_of_block (k := 11) Hx.out rfl).2; have qx12 := (cell_of_block (k := 12) Hx.out rfl).1; have zx12 := (cell_of_block (k := 12) Hx.out rfl).2; have lt_x := blk_lt Hx.out
    go_wp2_with fail
    clear qx0 zx0 qx1 zx1 qx2 zx2 qx3 zx3 qx4 zx4 qx5 zx5 qx6 zx6 qx7 zx7 qx8 zx8 qx9 zx9 qx10 zx10 qx11 zx11 qx12 zx12 lt_x
    refine (H2.out _).mono ?_
    rintro e w2 ⟨rfl, hb⟩
    go_wp2
    go_ret
    exact ⟨ret_bool (by rw [Hv.out]; rfl), below_call HB hb⟩
  go_enter Tryd.func27, Tryd.ntmps27
  go_wp2_with fail
  refine (H1.out _).mono ?_
  rintro e w1 ⟨rfl, hb⟩
  have Hx' := Lib.hid (bblock hb Hx.out); clear Hx; have Hx := Hx'; clear Hx'
  have HB' := below_call HB hb; clear HB hb; have HB := HB'; clear HB'; have hz := HB.size
  have qx0 := (cell_of_block (k := 0) Hx.out rfl).1; have zx0 := (cell_of_block (k := 0) Hx.out rfl).2; have qx1 := (cell_of_block (k := 1) Hx.out rfl).1; have zx1 := (cell_of_block (k := 1) Hx.out rfl).2; have qx2 := (cell_of_block (k := 2) Hx.out rfl).1; have zx2 := (cell_of_block (k := 2) Hx.out rfl).2; have qx3 := (cell_of_block (k := 3) Hx.out rfl).1; have zx3 := (cell_of_block (k := 3) Hx.out rfl).2; have qx4 := (cell_of_block (k := 4) Hx.out rfl).1; have zx4 := (cell_of_block (k := 4) Hx.out rfl).2; have qx5 := (cell_of_block (k := 5) Hx.out rfl).1; have zx5 := (cell_of_block (k := 5) Hx.out rfl).2; have qx6 := (cell_of_block (k := 6) Hx.out rfl).1; have zx6 := (cell_of_block (k := 6) Hx.out rfl).2; have qx7 := (cell_of_block (k := 7) Hx.out rfl).1; have zx7 := (cell_of_block (k := 7) Hx.out rfl).2; have qx8 := (cell_of_block (k := 8) Hx.out rfl).1; have zx8 := (cell_of_block (k := 8) Hx.out rfl).2; have qx9 := (cell_of_block (k := 9) Hx.out rfl).1; have zx9 := (cell_of_block (k := 9) Hx.out rfl).2; have qx10 := (cell_of_block (k := 10) Hx.out rfl).1; have zx10 := (cell_of_block (k := 10) Hx.out rfl).2; have qx11 := (cell_of_block (k := 11) Hx.out rfl).1; have zx11 := (cell_of_block (k := 11) Hx.out rfl).2; have qx12 := (cell_of_block (k := 12) Hx.out rfl).1; have zx12 := (cell_of_block (k := 12) Hx.out rfl).2; have lt_x := blk_lt Hx.out
  go_wp2_with fail
  clear qx0 zx0 qx1 zx1 qx2 zx2 qx3 zx3 qx4 zx4 qx5 zx5 qx6 zx6 qx7 zx7 qx8 zx8 qx9 zx9 qx10 zx10 qx11 zx11 qx12 zx12 lt_x
  refine (H2.out _).mono ?_
  rintro e w2 ⟨rfl, hb⟩
  have Hx' := Lib.hid (bblock hb Hx.out); clear Hx; have Hx := Hx'; clear Hx'
  have HB' := below_call HB hb; clear HB hb; have HB := HB'; clear HB'; have hz := HB.size
  have qx0 := (cell_of_block (k := 0) Hx.out rfl).1; have zx0 := (cell_of_block (k := 0) Hx.out rfl).2; have qx1 := (cell_of_block (k := 1) Hx.out rfl).1; have zx1 := (cell_of_block (k := 1) Hx.out rfl).2; have qx2 := (cell_of_block (k := 2) Hx.out rfl).1; have zx2 := (cell_of_block (k := 2) Hx.out rfl).2; have qx3 := (cell_of_block (k := 3) Hx.out rfl).1; have zx3 := (cell_of_block (k := 3) Hx.out rfl).2; have qx4 := (cell_of_block (k := 4) Hx.out rfl).1; have zx4 := (cell_of_block (k := 4) Hx.out rfl).2; have qx5 := (cell_of_block (k := 5) Hx.out rfl).1; have zx5 := (cell_of_block (k := 5) Hx.out rfl).2; have qx6 := (cell_of_block (k := 6) Hx.out rfl).1; have zx6 := (cell_of_block (k := 6) Hx.out rfl).2; have qx7 := (cell_of_block (k := 7) Hx.out rfl).1; have zx7 := (cell_of_block (k := 7) Hx.out rfl).2; have qx8 := (cell_of_block (k := 8) Hx.out rfl).1; have zx8 := (cell_of_block (k := 8) Hx.out rfl).2; have qx9 := (cell_of_block (k := 9) Hx.out rfl).1; have zx9 := (cell_of_block (k := 9) Hx.out rfl).2; have qx10 := (cell_of_block (k := 10) Hx.out rfl).1; have zx10 := (cell_of_block (k := 10) Hx.out rfl).2; have qx11 := (cell_of_block (k := 11) Hx.out rfl).1; have zx11 := (cell_of_block (k := 11) Hx.out rfl).2; have qx12 := (cell_of_block (k := 12) Hx.out rfl).1; have zx12 := (cell_of_block (k := 12) Hx.out rfl).2; have lt_x := blk_lt Hx.out
  go_wp2_with fail
  clear qx0 zx0 qx1 zx1 qx2 zx2 qx3 zx3 qx4 zx4 qx5 zx5 qx6 zx6 qx7 zx7 qx8 zx8 qx9 zx9 qx10 zx10 qx11 zx11 qx12 zx12 lt_x
  refine (H3.out _ (HBk.out _ HB)).mono ?_
  rintro e w3 ⟨rfl, hb⟩
  have Hx' := Lib.hid (bblock hb Hx.out); clear Hx; have Hx := Hx'; clear Hx'
  have HB' := below_call HB hb; clear HB hb; have HB := HB'; clear HB'; have hz := HB.size
  have qx0 := (cell_of_block (k := 0) Hx.out rfl).1; have zx0 := (cell_of_block (k := 0) Hx.out rfl).2; have qx1 := (cell_of_block (k := 1) Hx.out rfl).1; have zx1 := (cell_of_block (k := 1) Hx.out rfl).2; have qx2 := (cell_of_block (k := 2) Hx.out rfl).1; have zx2 := (cell_of_block (k := 2) Hx.out rfl).2; have qx3 := (cell_of_block (k := 3) Hx.out rfl).1; have zx3 := (cell_of_block (k := 3) Hx.out rfl).2; have qx4 := (cell_of_block (k := 4) Hx.out rfl).1; have zx4 := (cell_of_block (k := 4) Hx.out rfl).2; have qx5 := (cell_of_block (k := 5) Hx.out rfl).1; have zx5 := (cell_of_block (k := 5) Hx.out rfl).2; have qx6 := (cell_of_block (k := 6) Hx.out rfl).1; have zx6 := (cell_of_block (k := 6) Hx.out rfl).2; have qx7 := (cell_of_block (k := 7) Hx.out rfl).1; have zx7 := (cell_of_block (k := 7) Hx.out rfl).2; have qx8 := (cell_of_block (k := 8) Hx.out rfl).1; have zx8 := (cell_of_block (k := 8) Hx.out rfl).2; have qx9 := (cell_of_block (k := 9) Hx.out rfl).1; have zx9 := (cell_of_block (k := 9) Hx.out rfl).2; have qx10 := (cell_of_block (k := 10) Hx.out rfl).1; have zx10 := (cell_of_block (k := 10) Hx.out rfl).2; have qx11 := (cell_of_block (k := 11) Hx.out rfl).1; have zx11 := (cell_of_block (k := 11) Hx.out rfl).2; have qx12 := (cell_of_block (k := 12) Hx.out rfl).1; have zx12 := (cell_of_block (k := 12) Hx.out rfl).2; have lt_x := blk_lt Hx.out
  cases b3
  · go_wp2
    go_ret
    exact ⟨ret_bool (by rw [Hv.out]; rfl), HB⟩
  have hsz : Hid (s.data.toList.length = s.size) := Lib.hid rfl
  have hl3 : n ≤ 3 := HV3.out rfl
  cases syn <;> cases rst
  all_goals
    go_wp2
    go_ret
    refine ⟨ret_bool ?_, HB⟩
    rw [Hv.out, HL.out]
    first
      | (rw [emp_size]; simp only [VS]; rfl)
      | (simp [VS]; omega)
end Go.Proofs.YtmgjcjacoegocaaDoor.Sg
