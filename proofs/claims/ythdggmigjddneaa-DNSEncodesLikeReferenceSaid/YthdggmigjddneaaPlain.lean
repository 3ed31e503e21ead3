/-
  Plain laws on byte lists: big-endian numbers, sums of words, and the checksum.
-/
import Derived.Test.YthdggmigjddneaaWireBase
namespace Go.Proofs.Ythdggmigjddneaa.Wire
set_option maxRecDepth 100000
open Go.RowKit

theorem num_snoc (l : List UInt8) (b : UInt8) : num (l ++ [b]) = num l * 256 + b.toNat := by simp [num]
theorem num_be (k : Nat) (n : Int) (h0 : 0 ≤ n) (h1 : n < 256 ^ k) : num (be k n) = n := by
  induction k generalizing n with
  | zero => simp at h1; simp [be, num]; omega
  | succ k ih =>
    have h2 : n / 256 < 256 ^ k := by
      rw [Int.pow_succ] at h1
      omega
    rw [be, num_snoc, byte_toNat, ih (n / 256) (by omega) h2]
    omega
theorem be_inj (k : Nat) (m n : Int) (h0 : 0 ≤ n) (h1 : n < 256 ^ k) (g0 : 0 ≤ m) (g1 : m < 256 ^ k) (h : be k m = be k n) : m = n := by
  rw [← num_be k m g0 g1, h, num_be k n h0 h1]
theorem num_bd (l : List UInt8) : 0 ≤ num l ∧ num l < 256 ^ l.length := by
  suffices h : ∀ r : List UInt8, 0 ≤ num r.reverse ∧ num r.reverse < 256 ^ r.length by
    have := h l.reverse; simpa using this
  intro r
  induction r with
  | nil => simp [num]
  | cons b r ih =>
    rw [List.reverse_cons, num_snoc, List.length_cons, Int.pow_succ]
    have := u8_bd b
    omega
theorem be_num (l : List UInt8) : be l.length (num l) = l := by
  suffices h : ∀ r : List UInt8, be r.length (num r.reverse) = r.reverse by
    have := h l.reverse; simpa using this
  intro r
  induction r with
  | nil => rfl
  | cons b r ih =>
    have hb := u8_bd b
    rw [List.reverse_cons, num_snoc, List.length_cons, be]
    have e1 : (num r.reverse * 256 + (b.toNat : Int)) / 256 = num r.reverse := by omega
    have e2 : byte (num r.reverse * 256 + (b.toNat : Int)) = b := by
      unfold byte
      have : ((num r.reverse * 256 + (b.toNat : Int)) % 256).toNat = b.toNat := by omega
      rw [this]; simp
    rw [e1, e2, ih]

/-- the sum of the 16-bit words of a list, the last byte of an odd one being a high byte -/
def ws : List UInt8 → Int
  | [] => 0
  | [a] => (a.toNat : Int) * 256
  | a :: b :: r => (a.toNat : Int) * 256 + b.toNat + ws r

end Go.Proofs.Ythdggmigjddneaa.Wire
