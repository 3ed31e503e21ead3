/-
  Contracts of package seq and of its reference: each function returns the number that the plain definitions of this text give, at every int.
-/
import Derived.Test.YtbnndinjkdgccaaRows
import Derived.WalkKit
import Derived.WalkSpells
import Derived.WalkLawsBesides
import Derived.Lib.Hide
namespace Go.Proofs.Ytbnndinjkdgccaa.Seq
open Go.RowKit

theorem ret_int {k : IntKind} {a b : Int} (h : a = b) : Ending.returned (.int k a) = .returned (.int k b) := by rw [h]
theorem ret_bool {a b : Bool} (h : a = b) : Ending.returned (.bool a) = .returned (.bool b) := by rw [h]

def add (a n : Int) : Int := (a + n) % 4294967296
def ahead (a b : Int) : Int := (a - b) % 4294967296
def diff (a b : Int) : Int := if ahead a b < 2147483648 then ahead a b else ahead a b - 4294967296
def validB (a : Int) : Bool := decide (0 ≤ a) && decide (a ≤ 4294967295)
def lessB (a b : Int) : Bool := decide (diff a b < 0)
def inB (a b n : Int) : Bool := decide (ahead a b < n)
theorem ahead_lt (a b : Int) : 0 ≤ ahead a b ∧ ahead a b < 4294967296 := by unfold ahead; omega
theorem diff_lt (a b : Int) : -2147483648 ≤ diff a b ∧ diff a b ≤ 2147483647 := by have := ahead_lt a b; unfold diff; split <;> omega

set_option maxHeartbeats 400000 in
theorem plus_any (a b : Int) (w : World) :
    Calls Try.prog 19 #[.int .u32 a, .int .u32 b] w fun e w' => e = .returned (.int .u32 ((a + b) % 4294967296)) ∧ w = w' := by
  go_enter Try.func19, Try.ntmps19
  go_wp2
  go_ret
  exact ⟨rfl, rfl⟩

set_option maxHeartbeats 400000 in
theorem minus_any (a b : Int) (w : World) :
    Calls Try.prog 23 #[.int .u32 a, .int .u32 b] w fun e w' => e = .returned (.int .u32 ((a - b) % 4294967296)) ∧ w = w' := by
  go_enter Try.func23, Try.ntmps23
  go_wp2
  go_ret
  exact ⟨rfl, rfl⟩

set_option maxHeartbeats 400000 in
theorem apart_any (a b : Int) (w : World) :
    Calls Try.prog 21 #[.int .i64 a, .int .i64 b] w fun e w' => e = .returned (.int .u32 (ahead a b)) ∧ w = w' := by
  go_enter Try.func21, Try.ntmps21
  go_wp2
  go_ret
  exact ⟨ret_int (by unfold ahead; omega), rfl⟩

set_option maxHeartbeats 400000 in
theorem add_any (a b : Int) (w : World) :
    Calls Try.prog 10 #[.int .i64 a, .int .i64 b] w fun e w' => e = .returned (.int .i64 (add a b)) ∧ w = w' := by
  go_enter Try.func10, Try.ntmps10
  go_wp2
  go_ret
  exact ⟨ret_int (by unfold add; omega), rfl⟩

set_option maxHeartbeats 400000 in
theorem valid_any (a : Int) (w : World) :
    Calls Try.prog 8 #[.int .i64 a] w fun e w' => e = .returned (.bool (validB a)) ∧ w = w' := by
  go_enter Try.func8, Try.ntmps8
  go_wp2
  all_goals
    go_ret
    exact ⟨ret_bool (by simp [validB]; try omega), rfl⟩

set_option maxHeartbeats 400000 in
theorem diff_any (a b : Int) (w : World) :
    Calls Try.prog 12 #[.int .i64 a, .int .i64 b] w fun e w' => e = .returned (.int .i64 (diff a b)) ∧ w = w' := by
  go_enter Try.func12, Try.ntmps12
  have h := ahead_lt a b
  go_wp2_with (go_at_call 21; refine (apart_any _ _ _).mono ?_; rintro e w' ⟨rfl, rfl⟩)
  go_ret
  exact ⟨ret_int (by unfold diff wrap64 wrap32; split <;> omega), rfl⟩

set_option maxHeartbeats 400000 in
theorem less_any (a b : Int) (w : World) :
    Calls Try.prog 14 #[.int .i64 a, .int .i64 b] w fun e w' => e = .returned (.bool (lessB a b)) ∧ w = w' := by
  go_enter Try.func14, Try.ntmps14
  go_wp2_with (go_at_call 12; refine (diff_any _ _ _).mono ?_; rintro e w' ⟨rfl, rfl⟩)
  go_ret
  exact ⟨rfl, rfl⟩

set_option maxHeartbeats 400000 in
theorem in_any (a b n : Int) (w : World) :
    Calls Try.prog 16 #[.int .i64 a, .int .i64 b, .int .i64 n] w fun e w' => e = .returned (.bool (inB a b n)) ∧ w = w' := by
  go_enter Try.func16, Try.ntmps16
  have h := ahead_lt a b
  by_cases hn : 1 ≤ n
  · go_wp2_with (go_at_call 21; refine (apart_any _ _ _).mono ?_; rintro e w' ⟨rfl, rfl⟩)
    go_ret
    exact ⟨ret_bool (by simp [inB]), rfl⟩
  · go_wp2_with (go_at_call 21; refine (apart_any _ _ _).mono ?_; rintro e w' ⟨rfl, rfl⟩)
    go_ret
    exact ⟨ret_bool (by simp [inB]; omega), rfl⟩

set_option maxHeartbeats 400000 in
theorem rround_any (a : Int) (w : World) :
    Calls Try.prog 20 #[.int .i64 a] w fun e w' => e = .returned (.int .i64 (a % 4294967296)) ∧ w = w' := by
  go_enter Try.func20, Try.ntmps20
  have h1 : a.tmod 4294967296 = if a % 4294967296 = 0 ∨ 0 ≤ a then a % 4294967296 else a % 4294967296 - 4294967296 := by
    rw [Int.tmod_eq_emod]; split <;> split <;> omega
  have H1 := Lib.hid h1; clear h1
  have hb : -4294967296 < a.tmod 4294967296 ∧ a.tmod 4294967296 < 4294967296 := by rw [H1.out]; split <;> omega
  obtain ⟨hb1, hb2⟩ := hb
  go_wp2
  all_goals
    go_ret
    exact ⟨ret_int (by have := H1.out; split at this <;> omega), rfl⟩

set_option maxHeartbeats 400000 in
theorem rvalid_any (a : Int) (w : World) :
    Calls Try.prog 9 #[.int .i64 a] w fun e w' => e = .returned (.bool (validB a)) ∧ w = w' := by
  go_enter Try.func9, Try.ntmps9
  go_wp2
  all_goals
    go_ret
    exact ⟨ret_bool (by simp [validB]; try omega), rfl⟩

set_option maxHeartbeats 400000 in
theorem radd_any (a b : Int) (w : World) :
    Calls Try.prog 11 #[.int .i64 a, .int .i64 b] w fun e w' => e = .returned (.int .i64 (add a b)) ∧ w = w' := by
  go_enter Try.func11, Try.ntmps11
  go_wp2_with (go_at_call 20; refine (rround_any _ _).mono ?_; rintro e w' ⟨rfl, rfl⟩)
  go_ret
  exact ⟨ret_int (by unfold add; omega), rfl⟩

set_option maxHeartbeats 400000 in
theorem rahead_any (a b : Int) (w : World) :
    Calls Try.prog 22 #[.int .i64 a, .int .i64 b] w fun e w' => e = .returned (.int .i64 (ahead a b)) ∧ w = w' := by
  go_enter Try.func22, Try.ntmps22
  go_wp2_with (go_at_call 20; refine (rround_any _ _).mono ?_; rintro e w' ⟨rfl, rfl⟩)
  go_ret
  exact ⟨ret_int (by unfold ahead; omega), rfl⟩

set_option maxHeartbeats 400000 in
theorem rdiff_any (a b : Int) (w : World) :
    Calls Try.prog 13 #[.int .i64 a, .int .i64 b] w fun e w' => e = .returned (.int .i64 (diff a b)) ∧ w = w' := by
  go_enter Try.func13, Try.ntmps13
  have h := ahead_lt a b
  go_wp2_with (go_at_call 22; refine (rahead_any _ _ _).mono ?_; rintro e w' ⟨rfl, rfl⟩)
  all_goals
    go_ret
    exact ⟨ret_int (by unfold diff; split <;> omega), rfl⟩

set_option maxHeartbeats 400000 in
theorem rless_any (a b : Int) (w : World) :
    Calls Try.prog 15 #[.int .i64 a, .int .i64 b] w fun e w' => e = .returned (.bool (lessB a b)) ∧ w = w' := by
  go_enter Try.func15, Try.ntmps15
  go_wp2_with (go_at_call 13; refine (rdiff_any _ _ _).mono ?_; rintro e w' ⟨rfl, rfl⟩)
  go_ret
  exact ⟨rfl, rfl⟩

set_option maxHeartbeats 400000 in
theorem rin_any (a b n : Int) (w : World) :
    Calls Try.prog 17 #[.int .i64 a, .int .i64 b, .int .i64 n] w fun e w' => e = .returned (.bool (inB a b n)) ∧ w = w' := by
  go_enter Try.func17, Try.ntmps17
  have h := ahead_lt a b
  go_wp2_with (go_at_call 22; refine (rahead_any _ _ _).mono ?_; rintro e w' ⟨rfl, rfl⟩)
  go_ret
  exact ⟨ret_bool (by simp [inB]), rfl⟩

end Go.Proofs.Ytbnndinjkdgccaa.Seq
