/-
  Plain laws on byte lists: big-endian numbers, sums of words, and the checksum.
-/
import Derived.Test.YtmgjcjacoegocaaDoorCheck
import Derived.Test.YtmgjcjacoegocaaDoorWireBase
namespace Go.Proofs.YtmgjcjacoegocaaDoor.Wire
set_option maxRecDepth 100000
open Go.RowKit

theorem num_snoc (l : List UInt8) (b : UInt8) : num (l ++ [b]) = num l * 256 + b.toNat := by simp [num]
theorem num_be (k : Nat) (n : Int) (h0 : 0 ≤ n) (h1 : n < 256 ^ k) : num (be k n) = n := by
  induction k generalizing n with
  | zero => simp at h1; simp [be, num]; omega
  | succ k ih =>
    have h2 : n / 256 < 256 ^ k := by
      rw [Int.pow_succ] at h1
      omega
    rw [be, num_snoc, byte_toNat, ih (n / 256) (by omega) h2]
    omega
theorem be_inj (k : Nat) (m n : Int) (h0 : 0 ≤ n) (h1 : n < 256 ^ k) (g0 : 0 ≤ m) (g1 : m < 256 ^ k) (h : be k m = be k n) : m = n := by
  rw [← num_be k m g0 g1, h, num_be k n h0 h1]
theorem num_bd (l : List UInt8) : 0 ≤ num l ∧ num l < 256 ^ l.length := by
  suffices h : ∀ r : List UInt8, 0 ≤ num r.reverse ∧ num r.reverse < 256 ^ r.length by
    have := h l.reverse; simpa using this
  intro r
  induction r with
  | nil => simp [num]
  | cons b r ih =>
    rw [List.reverse_cons, num_snoc, List.length_cons, Int.pow_succ]
    have := u8_bd b
    omega
theorem be_num (l : List UInt8) : be l.length (num l) = l := by
  suffices h : ∀ r : List UInt8, be r.length (num r.reverse) = r.reverse by
    have := h l.reverse; simpa using this
  intro r
  induction r with
  | nil => rfl
  | cons b r ih =>
    have hb := u8_bd b
    rw [List.reverse_cons, num_snoc, List.length_cons, be]
    have e1 : (num r.reverse * 256 + (b.toNat : Int)) / 256 = num r.reverse := by omega
    have e2 : byte (num r.reverse * 256 + (b.toNat : Int)) = b := by
      unfold byte
      have : ((num r.reverse * 256 + (b.toNat : Int)) % 256).toNat = b.toNat := by omega
      rw [this]; simp
    rw [e1, e2, ih]

/-- the sum of the 16-bit words of a list, the last byte of an odd one being a high byte -/
def ws : List UInt8 → Int
  | [] => 0
  | [a] => (a.toNat : Int) * 256
  | a :: b :: r => (a.toNat : Int) * 256 + b.toNat + ws r
theorem ws_nonneg : ∀ l : List UInt8, 0 ≤ ws l
  | [] => by simp [ws]
  | [a] => by simp [ws]; omega
  | a :: b :: r => by have := ws_nonneg r; simp only [ws]; omega
theorem ws_append : ∀ (x y : List UInt8), x.length % 2 = 0 → ws (x ++ y) = ws x + ws y
  | [], y, _ => by simp [ws]
  | [a], y, h => by simp at h
  | a :: b :: r, y, h => by
    have := ws_append r y (by simp at h; omega)
    simp only [List.cons_append, ws, this]; omega
theorem ws_set : ∀ (l : List UInt8) (k : Nat) (v : UInt8) (hk : k < l.length), ws (l.set k v) = ws l + ((v.toNat : Int) - (l[k].toNat : Int)) * (if k % 2 = 0 then 256 else 1)
  | [], k, v, hk => by simp at hk
  | [a], 0, v, _ => by simp [ws]; omega
  | [a], k + 1, v, hk => by simp at hk
  | a :: b :: r, 0, v, _ => by simp [ws]; omega
  | a :: b :: r, 1, v, _ => by simp [ws]; omega
  | a :: b :: r, k + 2, v, hk => by
    have := ws_set r k v (by simpa using hk)
    have e : (k + 2) % 2 = k % 2 := by omega
    simp only [List.set_cons_succ, ws, this, List.getElem_cons_succ, e]; omega
theorem total_foldl (l : List Int) (a : Int) : l.foldl (· + ·) a = a + total l := by
  induction l generalizing a with
  | nil => simp [total]
  | cons x r ih =>
    have h1 := ih (a + x)
    have h2 := ih (0 + x)
    simp only [total, List.foldl_cons] at *
    omega
theorem total_cons (x : Int) (l : List Int) : total (x :: l) = x + total l := by
  have := total_foldl l (0 + x)
  simp only [total, List.foldl_cons] at *
  omega
theorem word_cons (a b : UInt8) (r : List UInt8) (k : Nat) : wordAt ⟨(a :: b :: r).toArray⟩ (k + 1) = wordAt ⟨r.toArray⟩ k := by
  unfold wordAt
  have e1 : 2 * (k + 1) = 2 * k + 1 + 1 := by omega
  simp [e1]
theorem upto_cons (a b : UInt8) (r : List UInt8) (n : Nat) : upto ⟨(a :: b :: r).toArray⟩ (n + 1) = ((a.toNat : Int) * 256 + b.toNat) :: upto ⟨r.toArray⟩ n := by
  unfold upto
  rw [List.range_succ_eq_map, List.map_cons, List.map_map]
  have e0 : wordAt ⟨(a :: b :: r).toArray⟩ 0 = (a.toNat : Int) * 256 + b.toNat := by simp [wordAt]
  rw [e0]
  exact congrArg _ (List.map_congr_left fun k _ => word_cons a b r k)
theorem wsum_eq : ∀ l : List UInt8, wsum ⟨l.toArray⟩ = ws l
  | [] => rfl
  | [a] => by
    have e : ((⟨[a].toArray⟩ : ByteArray).size + 1) / 2 = 1 := by simp [ByteArray.size]
    unfold wsum
    rw [e]
    simp [upto, total, wordAt, ws]
  | a :: b :: r => by
    have := wsum_eq r
    unfold wsum at *
    have e : ((⟨(a :: b :: r).toArray⟩ : ByteArray).size + 1) / 2 = ((⟨r.toArray⟩ : ByteArray).size + 1) / 2 + 1 := by simp only [ByteArray.size, List.size_toArray, List.length_cons]; omega
    rw [e, upto_cons, total_cons, this]
    simp only [ws]

theorem fold_mod (n : Int) : fold n % 65535 = n % 65535 := by unfold fold; split <;> omega
theorem csum_mod (l : List UInt8) : (ws l + csum ⟨l.toArray⟩) % 65535 = 0 := by
  have := fold_mod (ws l)
  unfold csum
  rw [wsum_eq]
  omega
theorem ws_be2 (n : Int) (h0 : 0 ≤ n) (h1 : n < 65536) : ws (be 2 n) = n := by
  have e : be 2 n = [byte (n / 256), byte n] := by simp [be]
  rw [e]
  simp only [ws, byte_toNat]
  omega
end Go.Proofs.YtmgjcjacoegocaaDoor.Wire
