/-
  The four laws of chapter 2 (sequence numbers): each call returns true, at every int. No condition.
-/
import Derived.Test.YtbnndinjkdgccaaSeq
namespace Go.Proofs.Ytbnndinjkdgccaa.Seq
open Go.RowKit

set_option maxHeartbeats 1000000 in
theorem sane_any (w : World) : Calls Try.prog 7 #[] w fun e w' => e = .returned (.bool true) ∧ w = w' := by
  have e1 : (add 4294967295 1 == 0) = true := by decide
  have e2 : (diff 1 4294967295 == 2) = true := by decide
  have e3 : lessB 4294967295 1 = true := by decide
  have e4 : lessB 1 4294967295 = false := by decide
  have e5 : inB 1 4294967294 4 = true := by decide
  have e6 : inB 2 4294967294 4 = false := by decide
  have e7 : validB 4294967295 = true := by decide
  have e8 : validB 4294967296 = false := by decide
  have e9 : (diff 0 2147483648 == -2147483648) = true := by decide
  go_enter Try.func7, Try.ntmps7
  go_wp2_with (first | (go_at_call 10; refine (add_any _ _ _).mono ?_; rintro e w' ⟨rfl, rfl⟩) | (go_at_call 12; refine (diff_any _ _ _).mono ?_; rintro e w' ⟨rfl, rfl⟩) | (go_at_call 14; refine (less_any _ _ _).mono ?_; rintro e w' ⟨rfl, rfl⟩) | (go_at_call 16; refine (in_any _ _ _ _).mono ?_; rintro e w' ⟨rfl, rfl⟩) | (go_at_call 8; refine (valid_any _ _).mono ?_; rintro e w' ⟨rfl, rfl⟩) | (go_at_call 11; refine (radd_any _ _ _).mono ?_; rintro e w' ⟨rfl, rfl⟩) | (go_at_call 13; refine (rdiff_any _ _ _).mono ?_; rintro e w' ⟨rfl, rfl⟩) | (go_at_call 15; refine (rless_any _ _ _).mono ?_; rintro e w' ⟨rfl, rfl⟩) | (go_at_call 17; refine (rin_any _ _ _ _).mono ?_; rintro e w' ⟨rfl, rfl⟩) | (go_at_call 9; refine (rvalid_any _ _).mono ?_; rintro e w' ⟨rfl, rfl⟩))
  go_ret
  exact ⟨rfl, rfl⟩

set_option maxHeartbeats 1000000 in
theorem ref_walk (a b n : Int) (w : World) : Calls Try.prog 3 #[.int .i64 a, .int .i64 b, .int .i64 n] w fun e w' => e = .returned (.bool true) ∧ w = w' := by
  go_enter Try.func3, Try.ntmps3
  go_wp2_with (first | (go_at_call 7; refine (sane_any _).mono ?_; rintro e w' ⟨rfl, rfl⟩) | (go_at_call 10; refine (add_any _ _ _).mono ?_; rintro e w' ⟨rfl, rfl⟩) | (go_at_call 12; refine (diff_any _ _ _).mono ?_; rintro e w' ⟨rfl, rfl⟩) | (go_at_call 14; refine (less_any _ _ _).mono ?_; rintro e w' ⟨rfl, rfl⟩) | (go_at_call 16; refine (in_any _ _ _ _).mono ?_; rintro e w' ⟨rfl, rfl⟩) | (go_at_call 8; refine (valid_any _ _).mono ?_; rintro e w' ⟨rfl, rfl⟩) | (go_at_call 11; refine (radd_any _ _ _).mono ?_; rintro e w' ⟨rfl, rfl⟩) | (go_at_call 13; refine (rdiff_any _ _ _).mono ?_; rintro e w' ⟨rfl, rfl⟩) | (go_at_call 15; refine (rless_any _ _ _).mono ?_; rintro e w' ⟨rfl, rfl⟩) | (go_at_call 17; refine (rin_any _ _ _ _).mono ?_; rintro e w' ⟨rfl, rfl⟩) | (go_at_call 9; refine (rvalid_any _ _).mono ?_; rintro e w' ⟨rfl, rfl⟩))
  go_ret
  exact ⟨rfl, rfl⟩

theorem shift_diff (a b n : Int) : diff (add a n) (add b n) = diff a b := by
  have h : ahead (add a n) (add b n) = ahead a b := by unfold ahead add; omega
  unfold diff; rw [h]
theorem shift_less (a b n : Int) : lessB (add a n) (add b n) = lessB a b := by unfold lessB; rw [shift_diff]
theorem shift_in (a b n m : Int) : inB (add a n) (add b n) m = inB a b m := by
  have h : ahead (add a n) (add b n) = ahead a b := by unfold ahead add; omega
  unfold inB; rw [h]
theorem valid_add (a n : Int) : validB (add a n) = true := by unfold validB add; simp; omega

set_option maxHeartbeats 1000000 in
theorem shift_walk (a b n m : Int) (w : World) : Calls Try.prog 4 #[.int .i64 a, .int .i64 b, .int .i64 n, .int .i64 m] w fun e w' => e = .returned (.bool true) ∧ w = w' := by
  have e1 : (diff (add a n) (add b n) == diff a b) = true := by rw [shift_diff]; simp
  have e2 : (lessB (add a n) (add b n) == lessB a b) = true := by rw [shift_less]; simp
  have e3 : (inB (add a n) (add b n) m == inB a b m) = true := by rw [shift_in]; simp
  have e4 := valid_add a n
  go_enter Try.func4, Try.ntmps4
  go_wp2_with (first | (go_at_call 7; refine (sane_any _).mono ?_; rintro e w' ⟨rfl, rfl⟩) | (go_at_call 10; refine (add_any _ _ _).mono ?_; rintro e w' ⟨rfl, rfl⟩) | (go_at_call 12; refine (diff_any _ _ _).mono ?_; rintro e w' ⟨rfl, rfl⟩) | (go_at_call 14; refine (less_any _ _ _).mono ?_; rintro e w' ⟨rfl, rfl⟩) | (go_at_call 16; refine (in_any _ _ _ _).mono ?_; rintro e w' ⟨rfl, rfl⟩) | (go_at_call 8; refine (valid_any _ _).mono ?_; rintro e w' ⟨rfl, rfl⟩) | (go_at_call 11; refine (radd_any _ _ _).mono ?_; rintro e w' ⟨rfl, rfl⟩) | (go_at_call 13; refine (rdiff_any _ _ _).mono ?_; rintro e w' ⟨rfl, rfl⟩) | (go_at_call 15; refine (rless_any _ _ _).mono ?_; rintro e w' ⟨rfl, rfl⟩) | (go_at_call 17; refine (rin_any _ _ _ _).mono ?_; rintro e w' ⟨rfl, rfl⟩) | (go_at_call 9; refine (rvalid_any _ _).mono ?_; rintro e w' ⟨rfl, rfl⟩))
  go_ret
  exact ⟨rfl, rfl⟩


theorem diff_add (a n : Int) (h1 : -2147483648 ≤ n) (h2 : n ≤ 2147483647) : diff (add a n) a = n := by
  unfold diff ahead add; split <;> omega
theorem add_diff (a b : Int) : add b (diff a b) = add a 0 := by
  unfold diff ahead add; split <;> omega
theorem add_add (a n m : Int) : add (add a n) m = add a (n + m) := by unfold add; omega
theorem diff_neg (a b : Int) (h' : diff a b ≠ -2147483648) : diff b a = - diff a b := by
  unfold diff ahead at *
  by_cases c1 : (a - b) % 4294967296 < 2147483648 <;> by_cases c2 : (b - a) % 4294967296 < 2147483648 <;> simp only [c1, c2, if_true, if_false] at h' ⊢ <;> omega
theorem less_xor (a b : Int) (h : diff a b ≠ 0) (h' : diff a b ≠ -2147483648) : lessB b a = !lessB a b := by
  have := diff_neg a b h'
  unfold lessB; rw [this, Bool.eq_iff_iff]
  simp only [decide_eq_true_eq, Bool.not_eq_true', decide_eq_false_iff_not]
  omega
theorem less_zero (a b : Int) (h : diff a b = 0) : lessB a b = false ∧ lessB b a = false := by
  have := diff_neg a b (by omega)
  unfold lessB; rw [this, h]; simp

set_option maxHeartbeats 1000000 in
theorem inv_in (a b n m : Int) (w : World) (q1 : -2147483648 ≤ n) (q2 : n ≤ 2147483647) : Calls Try.prog 5 #[.int .i64 a, .int .i64 b, .int .i64 n, .int .i64 m] w fun e w' => e = .returned (.bool true) ∧ w = w' := by

  have hd := diff_lt m 0
  have e1 : (diff (add a n) a == n) = true := by rw [diff_add a n q1 q2]; simp
  have e2 : (add b (diff a b) == add a 0) = true := by rw [add_diff]; simp
  have e3 : (add (add a n) (diff m 0) == add a (n + diff m 0)) = true := by rw [add_add]; simp
  obtain ⟨p1, p2⟩ := hd
  by_cases hz : diff a b = 0
  · have z1 : (diff a b == 0) = true := by simp [hz]
    have z2 : (diff a b != 0) = false := by simp [hz]
    obtain ⟨z3, z4⟩ := less_zero a b hz
    clear hz
    go_enter Try.func5, Try.ntmps5
    go_wp2_with (first | (go_at_call 7; refine (sane_any _).mono ?_; rintro e w' ⟨rfl, rfl⟩) | (go_at_call 10; refine (add_any _ _ _).mono ?_; rintro e w' ⟨rfl, rfl⟩) | (go_at_call 12; refine (diff_any _ _ _).mono ?_; rintro e w' ⟨rfl, rfl⟩) | (go_at_call 14; refine (less_any _ _ _).mono ?_; rintro e w' ⟨rfl, rfl⟩) | (go_at_call 16; refine (in_any _ _ _ _).mono ?_; rintro e w' ⟨rfl, rfl⟩) | (go_at_call 8; refine (valid_any _ _).mono ?_; rintro e w' ⟨rfl, rfl⟩) | (go_at_call 11; refine (radd_any _ _ _).mono ?_; rintro e w' ⟨rfl, rfl⟩) | (go_at_call 13; refine (rdiff_any _ _ _).mono ?_; rintro e w' ⟨rfl, rfl⟩) | (go_at_call 15; refine (rless_any _ _ _).mono ?_; rintro e w' ⟨rfl, rfl⟩) | (go_at_call 17; refine (rin_any _ _ _ _).mono ?_; rintro e w' ⟨rfl, rfl⟩) | (go_at_call 9; refine (rvalid_any _ _).mono ?_; rintro e w' ⟨rfl, rfl⟩))
    go_ret
    exact ⟨rfl, rfl⟩
  · have z1 : (diff a b == 0) = false := by simp [hz]
    have z2 : (diff a b != 0) = true := by simp [hz]
    by_cases hy : diff a b = -2147483648
    · have y1 : (diff a b == -2147483648) = true := by simp [hy]
      clear hy hz
      cases y2 : lessB a b <;> cases y3 : lessB b a
      all_goals
        go_enter Try.func5, Try.ntmps5
        go_wp2_with (first | (go_at_call 7; refine (sane_any _).mono ?_; rintro e w' ⟨rfl, rfl⟩) | (go_at_call 10; refine (add_any _ _ _).mono ?_; rintro e w' ⟨rfl, rfl⟩) | (go_at_call 12; refine (diff_any _ _ _).mono ?_; rintro e w' ⟨rfl, rfl⟩) | (go_at_call 14; refine (less_any _ _ _).mono ?_; rintro e w' ⟨rfl, rfl⟩) | (go_at_call 16; refine (in_any _ _ _ _).mono ?_; rintro e w' ⟨rfl, rfl⟩) | (go_at_call 8; refine (valid_any _ _).mono ?_; rintro e w' ⟨rfl, rfl⟩) | (go_at_call 11; refine (radd_any _ _ _).mono ?_; rintro e w' ⟨rfl, rfl⟩) | (go_at_call 13; refine (rdiff_any _ _ _).mono ?_; rintro e w' ⟨rfl, rfl⟩) | (go_at_call 15; refine (rless_any _ _ _).mono ?_; rintro e w' ⟨rfl, rfl⟩) | (go_at_call 17; refine (rin_any _ _ _ _).mono ?_; rintro e w' ⟨rfl, rfl⟩) | (go_at_call 9; refine (rvalid_any _ _).mono ?_; rintro e w' ⟨rfl, rfl⟩))
        go_ret
        exact ⟨rfl, rfl⟩
    · have y1 : (diff a b == -2147483648) = false := by simp [hy]
      have y2 := less_xor a b hz hy
      clear hy hz
      cases y3 : lessB a b
      all_goals
        rw [y3] at y2
        simp only [Bool.not_false, Bool.not_true] at y2
        go_enter Try.func5, Try.ntmps5
        go_wp2_with (first | (go_at_call 7; refine (sane_any _).mono ?_; rintro e w' ⟨rfl, rfl⟩) | (go_at_call 10; refine (add_any _ _ _).mono ?_; rintro e w' ⟨rfl, rfl⟩) | (go_at_call 12; refine (diff_any _ _ _).mono ?_; rintro e w' ⟨rfl, rfl⟩) | (go_at_call 14; refine (less_any _ _ _).mono ?_; rintro e w' ⟨rfl, rfl⟩) | (go_at_call 16; refine (in_any _ _ _ _).mono ?_; rintro e w' ⟨rfl, rfl⟩) | (go_at_call 8; refine (valid_any _ _).mono ?_; rintro e w' ⟨rfl, rfl⟩) | (go_at_call 11; refine (radd_any _ _ _).mono ?_; rintro e w' ⟨rfl, rfl⟩) | (go_at_call 13; refine (rdiff_any _ _ _).mono ?_; rintro e w' ⟨rfl, rfl⟩) | (go_at_call 15; refine (rless_any _ _ _).mono ?_; rintro e w' ⟨rfl, rfl⟩) | (go_at_call 17; refine (rin_any _ _ _ _).mono ?_; rintro e w' ⟨rfl, rfl⟩) | (go_at_call 9; refine (rvalid_any _ _).mono ?_; rintro e w' ⟨rfl, rfl⟩))
        go_ret
        exact ⟨rfl, rfl⟩

set_option maxHeartbeats 1000000 in
theorem inv_lo (a b n m : Int) (w : World) (c : n < -2147483648) : Calls Try.prog 5 #[.int .i64 a, .int .i64 b, .int .i64 n, .int .i64 m] w fun e w' => e = .returned (.bool true) ∧ w = w' := by
  obtain ⟨q1, q2⟩ := diff_lt n 0
  have hd := diff_lt m 0
  have e1 : (diff (add a (diff n 0)) a == (diff n 0)) = true := by rw [diff_add a (diff n 0) q1 q2]; simp
  have e2 : (add b (diff a b) == add a 0) = true := by rw [add_diff]; simp
  have e3 : (add (add a (diff n 0)) (diff m 0) == add a ((diff n 0) + diff m 0)) = true := by rw [add_add]; simp
  obtain ⟨p1, p2⟩ := hd
  by_cases hz : diff a b = 0
  · have z1 : (diff a b == 0) = true := by simp [hz]
    have z2 : (diff a b != 0) = false := by simp [hz]
    obtain ⟨z3, z4⟩ := less_zero a b hz
    clear hz
    go_enter Try.func5, Try.ntmps5
    go_wp2_with (first | (go_at_call 7; refine (sane_any _).mono ?_; rintro e w' ⟨rfl, rfl⟩) | (go_at_call 10; refine (add_any _ _ _).mono ?_; rintro e w' ⟨rfl, rfl⟩) | (go_at_call 12; refine (diff_any _ _ _).mono ?_; rintro e w' ⟨rfl, rfl⟩) | (go_at_call 14; refine (less_any _ _ _).mono ?_; rintro e w' ⟨rfl, rfl⟩) | (go_at_call 16; refine (in_any _ _ _ _).mono ?_; rintro e w' ⟨rfl, rfl⟩) | (go_at_call 8; refine (valid_any _ _).mono ?_; rintro e w' ⟨rfl, rfl⟩) | (go_at_call 11; refine (radd_any _ _ _).mono ?_; rintro e w' ⟨rfl, rfl⟩) | (go_at_call 13; refine (rdiff_any _ _ _).mono ?_; rintro e w' ⟨rfl, rfl⟩) | (go_at_call 15; refine (rless_any _ _ _).mono ?_; rintro e w' ⟨rfl, rfl⟩) | (go_at_call 17; refine (rin_any _ _ _ _).mono ?_; rintro e w' ⟨rfl, rfl⟩) | (go_at_call 9; refine (rvalid_any _ _).mono ?_; rintro e w' ⟨rfl, rfl⟩))
    go_ret
    exact ⟨rfl, rfl⟩
  · have z1 : (diff a b == 0) = false := by simp [hz]
    have z2 : (diff a b != 0) = true := by simp [hz]
    by_cases hy : diff a b = -2147483648
    · have y1 : (diff a b == -2147483648) = true := by simp [hy]
      clear hy hz
      cases y2 : lessB a b <;> cases y3 : lessB b a
      all_goals
        go_enter Try.func5, Try.ntmps5
        go_wp2_with (first | (go_at_call 7; refine (sane_any _).mono ?_; rintro e w' ⟨rfl, rfl⟩) | (go_at_call 10; refine (add_any _ _ _).mono ?_; rintro e w' ⟨rfl, rfl⟩) | (go_at_call 12; refine (diff_any _ _ _).mono ?_; rintro e w' ⟨rfl, rfl⟩) | (go_at_call 14; refine (less_any _ _ _).mono ?_; rintro e w' ⟨rfl, rfl⟩) | (go_at_call 16; refine (in_any _ _ _ _).mono ?_; rintro e w' ⟨rfl, rfl⟩) | (go_at_call 8; refine (valid_any _ _).mono ?_; rintro e w' ⟨rfl, rfl⟩) | (go_at_call 11; refine (radd_any _ _ _).mono ?_; rintro e w' ⟨rfl, rfl⟩) | (go_at_call 13; refine (rdiff_any _ _ _).mono ?_; rintro e w' ⟨rfl, rfl⟩) | (go_at_call 15; refine (rless_any _ _ _).mono ?_; rintro e w' ⟨rfl, rfl⟩) | (go_at_call 17; refine (rin_any _ _ _ _).mono ?_; rintro e w' ⟨rfl, rfl⟩) | (go_at_call 9; refine (rvalid_any _ _).mono ?_; rintro e w' ⟨rfl, rfl⟩))
        go_ret
        exact ⟨rfl, rfl⟩
    · have y1 : (diff a b == -2147483648) = false := by simp [hy]
      have y2 := less_xor a b hz hy
      clear hy hz
      cases y3 : lessB a b
      all_goals
        rw [y3] at y2
        simp only [Bool.not_false, Bool.not_true] at y2
        go_enter Try.func5, Try.ntmps5
        go_wp2_with (first | (go_at_call 7; refine (sane_any _).mono ?_; rintro e w' ⟨rfl, rfl⟩) | (go_at_call 10; refine (add_any _ _ _).mono ?_; rintro e w' ⟨rfl, rfl⟩) | (go_at_call 12; refine (diff_any _ _ _).mono ?_; rintro e w' ⟨rfl, rfl⟩) | (go_at_call 14; refine (less_any _ _ _).mono ?_; rintro e w' ⟨rfl, rfl⟩) | (go_at_call 16; refine (in_any _ _ _ _).mono ?_; rintro e w' ⟨rfl, rfl⟩) | (go_at_call 8; refine (valid_any _ _).mono ?_; rintro e w' ⟨rfl, rfl⟩) | (go_at_call 11; refine (radd_any _ _ _).mono ?_; rintro e w' ⟨rfl, rfl⟩) | (go_at_call 13; refine (rdiff_any _ _ _).mono ?_; rintro e w' ⟨rfl, rfl⟩) | (go_at_call 15; refine (rless_any _ _ _).mono ?_; rintro e w' ⟨rfl, rfl⟩) | (go_at_call 17; refine (rin_any _ _ _ _).mono ?_; rintro e w' ⟨rfl, rfl⟩) | (go_at_call 9; refine (rvalid_any _ _).mono ?_; rintro e w' ⟨rfl, rfl⟩))
        go_ret
        exact ⟨rfl, rfl⟩

set_option maxHeartbeats 1000000 in
theorem inv_hi (a b n m : Int) (w : World) (c : 2147483647 < n) : Calls Try.prog 5 #[.int .i64 a, .int .i64 b, .int .i64 n, .int .i64 m] w fun e w' => e = .returned (.bool true) ∧ w = w' := by
  obtain ⟨q1, q2⟩ := diff_lt n 0
  have hd := diff_lt m 0
  have e1 : (diff (add a (diff n 0)) a == (diff n 0)) = true := by rw [diff_add a (diff n 0) q1 q2]; simp
  have e2 : (add b (diff a b) == add a 0) = true := by rw [add_diff]; simp
  have e3 : (add (add a (diff n 0)) (diff m 0) == add a ((diff n 0) + diff m 0)) = true := by rw [add_add]; simp
  obtain ⟨p1, p2⟩ := hd
  by_cases hz : diff a b = 0
  · have z1 : (diff a b == 0) = true := by simp [hz]
    have z2 : (diff a b != 0) = false := by simp [hz]
    obtain ⟨z3, z4⟩ := less_zero a b hz
    clear hz
    go_enter Try.func5, Try.ntmps5
    go_wp2_with (first | (go_at_call 7; refine (sane_any _).mono ?_; rintro e w' ⟨rfl, rfl⟩) | (go_at_call 10; refine (add_any _ _ _).mono ?_; rintro e w' ⟨rfl, rfl⟩) | (go_at_call 12; refine (diff_any _ _ _).mono ?_; rintro e w' ⟨rfl, rfl⟩) | (go_at_call 14; refine (less_any _ _ _).mono ?_; rintro e w' ⟨rfl, rfl⟩) | (go_at_call 16; refine (in_any _ _ _ _).mono ?_; rintro e w' ⟨rfl, rfl⟩) | (go_at_call 8; refine (valid_any _ _).mono ?_; rintro e w' ⟨rfl, rfl⟩) | (go_at_call 11; refine (radd_any _ _ _).mono ?_; rintro e w' ⟨rfl, rfl⟩) | (go_at_call 13; refine (rdiff_any _ _ _).mono ?_; rintro e w' ⟨rfl, rfl⟩) | (go_at_call 15; refine (rless_any _ _ _).mono ?_; rintro e w' ⟨rfl, rfl⟩) | (go_at_call 17; refine (rin_any _ _ _ _).mono ?_; rintro e w' ⟨rfl, rfl⟩) | (go_at_call 9; refine (rvalid_any _ _).mono ?_; rintro e w' ⟨rfl, rfl⟩))
    go_ret
    exact ⟨rfl, rfl⟩
  · have z1 : (diff a b == 0) = false := by simp [hz]
    have z2 : (diff a b != 0) = true := by simp [hz]
    by_cases hy : diff a b = -2147483648
    · have y1 : (diff a b == -2147483648) = true := by simp [hy]
      clear hy hz
      cases y2 : lessB a b <;> cases y3 : lessB b a
      all_goals
        go_enter Try.func5, Try.ntmps5
        go_wp2_with (first | (go_at_call 7; refine (sane_any _).mono ?_; rintro e w' ⟨rfl, rfl⟩) | (go_at_call 10; refine (add_any _ _ _).mono ?_; rintro e w' ⟨rfl, rfl⟩) | (go_at_call 12; refine (diff_any _ _ _).mono ?_; rintro e w' ⟨rfl, rfl⟩) | (go_at_call 14; refine (less_any _ _ _).mono ?_; rintro e w' ⟨rfl, rfl⟩) | (go_at_call 16; refine (in_any _ _ _ _).mono ?_; rintro e w' ⟨rfl, rfl⟩) | (go_at_call 8; refine (valid_any _ _).mono ?_; rintro e w' ⟨rfl, rfl⟩) | (go_at_call 11; refine (radd_any _ _ _).mono ?_; rintro e w' ⟨rfl, rfl⟩) | (go_at_call 13; refine (rdiff_any _ _ _).mono ?_; rintro e w' ⟨rfl, rfl⟩) | (go_at_call 15; refine (rless_any _ _ _).mono ?_; rintro e w' ⟨rfl, rfl⟩) | (go_at_call 17; refine (rin_any _ _ _ _).mono ?_; rintro e w' ⟨rfl, rfl⟩) | (go_at_call 9; refine (rvalid_any _ _).mono ?_; rintro e w' ⟨rfl, rfl⟩))
        go_ret
        exact ⟨rfl, rfl⟩
    · have y1 : (diff a b == -2147483648) = false := by simp [hy]
      have y2 := less_xor a b hz hy
      clear hy hz
      cases y3 : lessB a b
      all_goals
        rw [y3] at y2
        simp only [Bool.not_false, Bool.not_true] at y2
        go_enter Try.func5, Try.ntmps5
        go_wp2_with (first | (go_at_call 7; refine (sane_any _).mono ?_; rintro e w' ⟨rfl, rfl⟩) | (go_at_call 10; refine (add_any _ _ _).mono ?_; rintro e w' ⟨rfl, rfl⟩) | (go_at_call 12; refine (diff_any _ _ _).mono ?_; rintro e w' ⟨rfl, rfl⟩) | (go_at_call 14; refine (less_any _ _ _).mono ?_; rintro e w' ⟨rfl, rfl⟩) | (go_at_call 16; refine (in_any _ _ _ _).mono ?_; rintro e w' ⟨rfl, rfl⟩) | (go_at_call 8; refine (valid_any _ _).mono ?_; rintro e w' ⟨rfl, rfl⟩) | (go_at_call 11; refine (radd_any _ _ _).mono ?_; rintro e w' ⟨rfl, rfl⟩) | (go_at_call 13; refine (rdiff_any _ _ _).mono ?_; rintro e w' ⟨rfl, rfl⟩) | (go_at_call 15; refine (rless_any _ _ _).mono ?_; rintro e w' ⟨rfl, rfl⟩) | (go_at_call 17; refine (rin_any _ _ _ _).mono ?_; rintro e w' ⟨rfl, rfl⟩) | (go_at_call 9; refine (rvalid_any _ _).mono ?_; rintro e w' ⟨rfl, rfl⟩))
        go_ret
        exact ⟨rfl, rfl⟩

theorem inv_walk (a b n m : Int) (w : World) : Calls Try.prog 5 #[.int .i64 a, .int .i64 b, .int .i64 n, .int .i64 m] w fun e w' => e = .returned (.bool true) ∧ w = w' := by
  by_cases c1 : n < -2147483648
  · exact inv_lo a b n m w c1
  · by_cases c2 : 2147483647 < n
    · exact inv_hi a b n m w c2
    · exact inv_in a b n m w (by omega) (by omega)

def pick (c n : Int) : Int := if c < 0 then (-(c + 1)) % n else c % n
theorem pick_lt (c n : Int) (h : 0 < n) : 0 ≤ pick c n ∧ pick c n < n := by
  unfold pick; split
  · exact ⟨Int.emod_nonneg _ (by omega), Int.emod_lt_of_pos _ h⟩
  · exact ⟨Int.emod_nonneg _ (by omega), Int.emod_lt_of_pos _ h⟩

set_option maxHeartbeats 400000 in
theorem pick_any (c n : Int) (w : World) (h1 : -9223372036854775808 ≤ c) (h2 : c ≤ 9223372036854775807) (h : 1 ≤ n) (h' : n ≤ 4294967295) :
    Calls Try.prog 18 #[.int .i64 c, .int .i64 n] w fun e w' => e = .returned (.int .i64 (pick c n)) ∧ w = w' := by
  have hne : (n == 0) = false := by simp; omega
  by_cases hc : c < 0
  · go_enter Try.func18, Try.ntmps18
    go_wp2
    go_ret
    exact ⟨ret_int (by unfold pick; rw [if_pos hc, ← Int.neg_tmod, Int.tmod_eq_emod_of_nonneg (by omega)]), rfl⟩
  · go_enter Try.func18, Try.ntmps18
    go_wp2
    go_ret
    exact ⟨ret_int (by unfold pick; rw [if_neg (by omega)]), rfl⟩

theorem in_same (a n : Int) (_ : 1 ≤ n) : inB a a n = true := by unfold inB ahead; simp; omega
theorem in_add (a n k : Int) (h0 : 0 ≤ k) (h1 : k < n) : inB (add a k) a n = true := by unfold inB ahead add; simp; omega
theorem in_end (a n : Int) (h1 : 0 ≤ n) (h : n ≤ 4294967295) : inB (add a n) a n = false := by unfold inB ahead add; simp; omega
theorem in_minus (a n : Int) (h1 : 0 ≤ n) (h : n ≤ 4294967295) : inB (add a (-1)) a n = false := by unfold inB ahead add; simp; omega
theorem in_none (a n : Int) (h1 : n ≤ 0) : inB a a n = false := by unfold inB ahead; simp; omega

set_option maxHeartbeats 1000000 in
theorem window_walk (a n k : Int) (w : World) (w1 : -9223372036854775808 ≤ n ∧ n ≤ 9223372036854775807) (w2 : -9223372036854775808 ≤ k ∧ k ≤ 9223372036854775807) : Calls Try.prog 6 #[.int .i64 a, .int .i64 n, .int .i64 k] w fun e w' => e = .returned (.bool true) ∧ w = w' := by
  obtain ⟨p1, p2⟩ := pick_lt n 4294967295 (by omega)
  obtain ⟨q1, q2⟩ := pick_lt k (1 + pick n 4294967295) (by omega)
  have e1 := in_same a (1 + pick n 4294967295) (by omega)
  have e2 := in_add a (1 + pick n 4294967295) (pick k (1 + pick n 4294967295)) (by omega) (by omega)
  have e3 := in_add a (1 + pick n 4294967295) (1 + pick n 4294967295 - 1) (by omega) (by omega)
  have e4 := in_end a (1 + pick n 4294967295) (by omega) (by omega)
  have e5 := in_minus a (1 + pick n 4294967295) (by omega) (by omega)
  have e6 := in_none a 0 (by omega)
  have e7 := in_none a (-1 - pick k (1 + pick n 4294967295)) (by omega)
  have g1 : ∀ w, Calls Try.prog 18 #[.int .i64 n, .int .i64 4294967295] w fun e w' => e = .returned (.int .i64 (pick n 4294967295)) ∧ w = w' := fun w => pick_any n 4294967295 w w1.1 w1.2 (by omega) (by omega)
  have g2 : ∀ w, Calls Try.prog 18 #[.int .i64 k, .int .i64 (1 + pick n 4294967295)] w fun e w' => e = .returned (.int .i64 (pick k (1 + pick n 4294967295))) ∧ w = w' := fun w => pick_any k _ w w2.1 w2.2 (by omega) (by omega)
  have G1 := Lib.hid g1
  have G2 := Lib.hid g2
  clear g1 g2
  generalize hm : pick n 4294967295 = m at *
  have Hm := Lib.hid hm; clear hm
  generalize hj : pick k (1 + m) = j at *
  have Hj := Lib.hid hj; clear hj
  go_enter Try.func6, Try.ntmps6
  go_wp2_with (go_at_call 7; refine (sane_any _).mono ?_; rintro e w' ⟨rfl, rfl⟩)
  refine (G1.out _).mono ?_
  rintro e w' ⟨rfl, rfl⟩
  go_wp2_with fail
  refine (G2.out _).mono ?_
  rintro e w' ⟨rfl, rfl⟩
  go_wp2_with (first | (go_at_call 10; refine (add_any _ _ _).mono ?_; rintro e w' ⟨rfl, rfl⟩) | (go_at_call 12; refine (diff_any _ _ _).mono ?_; rintro e w' ⟨rfl, rfl⟩) | (go_at_call 14; refine (less_any _ _ _).mono ?_; rintro e w' ⟨rfl, rfl⟩) | (go_at_call 16; refine (in_any _ _ _ _).mono ?_; rintro e w' ⟨rfl, rfl⟩) | (go_at_call 8; refine (valid_any _ _).mono ?_; rintro e w' ⟨rfl, rfl⟩) | (go_at_call 11; refine (radd_any _ _ _).mono ?_; rintro e w' ⟨rfl, rfl⟩) | (go_at_call 13; refine (rdiff_any _ _ _).mono ?_; rintro e w' ⟨rfl, rfl⟩) | (go_at_call 15; refine (rless_any _ _ _).mono ?_; rintro e w' ⟨rfl, rfl⟩) | (go_at_call 17; refine (rin_any _ _ _ _).mono ?_; rintro e w' ⟨rfl, rfl⟩) | (go_at_call 9; refine (rvalid_any _ _).mono ?_; rintro e w' ⟨rfl, rfl⟩))
  go_ret
  exact ⟨rfl, rfl⟩

end Go.Proofs.Ytbnndinjkdgccaa.Seq
