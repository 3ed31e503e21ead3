/-
  Contracts of seq.Add and seq.Diff: each returns the number that the plain definitions of this text give, at every int.
-/
import Derived.Test.YtkinlmanimdlcaaRows
import Derived.WalkKit
import Derived.WalkSpells
import Derived.WalkLawsBesides
import Derived.Lib.Hide
namespace Go.Proofs.Ytkinlmanimdlcaa.Seq
open Go.RowKit

theorem ret_int {k : IntKind} {a b : Int} (h : a = b) : Ending.returned (.int k a) = .returned (.int k b) := by rw [h]
theorem ret_bool {a b : Bool} (h : a = b) : Ending.returned (.bool a) = .returned (.bool b) := by rw [h]

def add (a n : Int) : Int := (a + n) % 4294967296
def ahead (a b : Int) : Int := (a - b) % 4294967296
def diff (a b : Int) : Int := if ahead a b < 2147483648 then ahead a b else ahead a b - 4294967296
def validB (a : Int) : Bool := decide (0 ≤ a) && decide (a ≤ 4294967295)
def lessB (a b : Int) : Bool := decide (diff a b < 0)
def inB (a b n : Int) : Bool := decide (ahead a b < n)
theorem ahead_lt (a b : Int) : 0 ≤ ahead a b ∧ ahead a b < 4294967296 := by unfold ahead; omega
theorem diff_lt (a b : Int) : -2147483648 ≤ diff a b ∧ diff a b ≤ 2147483647 := by have := ahead_lt a b; unfold diff; split <;> omega

set_option maxHeartbeats 400000 in
theorem plus_any (a b : Int) (w : World) :
    Calls Try.prog 47 #[.int .u32 a, .int .u32 b] w fun e w' => e = .returned (.int .u32 ((a + b) % 4294967296)) ∧ w = w' := by
  go_enter Try.func47, Try.ntmps47
  go_wp2
  go_ret
  exact ⟨rfl, rfl⟩

set_option maxHeartbeats 400000 in
theorem minus_any (a b : Int) (w : World) :
    Calls Try.prog 59 #[.int .u32 a, .int .u32 b] w fun e w' => e = .returned (.int .u32 ((a - b) % 4294967296)) ∧ w = w' := by
  go_enter Try.func59, Try.ntmps59
  go_wp2
  go_ret
  exact ⟨rfl, rfl⟩

set_option maxHeartbeats 400000 in
theorem apart_any (a b : Int) (w : World) :
    Calls Try.prog 48 #[.int .i64 a, .int .i64 b] w fun e w' => e = .returned (.int .u32 (ahead a b)) ∧ w = w' := by
  go_enter Try.func48, Try.ntmps48
  go_wp2
  go_ret
  exact ⟨ret_int (by unfold ahead; omega), rfl⟩

set_option maxHeartbeats 400000 in
theorem add_any (a b : Int) (w : World) :
    Calls Try.prog 26 #[.int .i64 a, .int .i64 b] w fun e w' => e = .returned (.int .i64 (add a b)) ∧ w = w' := by
  go_enter Try.func26, Try.ntmps26
  go_wp2
  go_ret
  exact ⟨ret_int (by unfold add; omega), rfl⟩

set_option maxHeartbeats 400000 in
theorem diff_any (a b : Int) (w : World) :
    Calls Try.prog 27 #[.int .i64 a, .int .i64 b] w fun e w' => e = .returned (.int .i64 (diff a b)) ∧ w = w' := by
  go_enter Try.func27, Try.ntmps27
  have h := ahead_lt a b
  go_wp2_with (go_at_call 48; refine (apart_any _ _ _).mono ?_; rintro e w' ⟨rfl, rfl⟩)
  go_ret
  exact ⟨ret_int (by unfold diff wrap64 wrap32; split <;> omega), rfl⟩
end Go.Proofs.Ytkinlmanimdlcaa.Seq
