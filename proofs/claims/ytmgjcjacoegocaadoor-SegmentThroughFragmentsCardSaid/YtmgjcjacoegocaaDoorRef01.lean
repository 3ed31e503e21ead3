/-
  Contracts of the reference of chapter 1: Put, Get and Checksum give what the program's own functions give.
-/
import Derived.Test.YtmgjcjacoegocaaDoorPlain
import Derived.Test.YtmgjcjacoegocaaDoorWire
import Derived.Test.YtmgjcjacoegocaaDoorBase0
namespace Go.Proofs.YtmgjcjacoegocaaDoor.Wire
set_option maxRecDepth 100000
open Go.RowKit

theorem pow_bd (k : Nat) (h : k ≤ 4) : (1 : Int) ≤ 256 ^ k ∧ (256 : Int) ^ k ≤ 4294967296 := by
  have : k = 0 ∨ k = 1 ∨ k = 2 ∨ k = 3 ∨ k = 4 := by omega
  rcases this with rfl | rfl | rfl | rfl | rfl <;> simp


theorem be_cons (k : Nat) (n : Int) : be (k + 1) n = byte (n / 256 ^ k) :: be k n := by
  induction k generalizing n with
  | zero => simp [be]
  | succ k ih =>
    rw [be, ih (n / 256), be]
    have e : n / 256 / 256 ^ k = n / 256 ^ (k + 1) := by rw [Int.pow_succ, Int.mul_comm, Int.ediv_ediv_of_nonneg (by omega)]
    rw [e]; rfl
theorem conv_one (W : World) (b : Nat) (m : Int) (h : W.cell? ⟨b, 0, none⟩ = some (.int .u8 m)) : (convert 88 9 (.slice (some ⟨b, 0, none⟩) 1 1)).run Tryd.prog W = .ok (.string ⟨#[UInt8.ofNat m.toNat]⟩) W := by
  rw [run_convert_bytes_arg W 88 5 Tryd.underlying88 Tryd.underlying5 b 0 1 1 [m] rfl ?_ 9 Tryd.underlying9]
  · rfl
  · intro i hi
    obtain rfl : i = 0 := by omega
    exact h



/-- the first k bytes from a on, as the loop of Get reads them -/
theorem bytesAt_succ (s : ByteArray) (a k : Nat) (h : a + k < s.size) : bytesAt s a (k + 1) = bytesAt s a k ++ [s[a + k]] := by
  unfold bytesAt
  have hl : k < (s.data.toList.drop a).length := by
    have : s.data.toList.length = s.size := rfl
    rw [List.length_drop]; omega
  rw [List.take_succ_eq_append_getElem hl, List.getElem_drop]
  rfl
theorem bytesAt_bd (s : ByteArray) (a k : Nat) (hk : k ≤ 4) : 0 ≤ num (bytesAt s a k) ∧ num (bytesAt s a k) ≤ 4294967296 := by
  have h := num_bd (bytesAt s a k)
  have hl : (bytesAt s a k).length ≤ 4 := by unfold bytesAt; rw [List.length_take]; omega
  have := pow_bd _ hl
  omega



theorem ws_snoc : ∀ (l : List UInt8) (b : UInt8), ws (l ++ [b]) = ws l + (if l.length % 2 = 0 then (b.toNat : Int) * 256 else b.toNat)
  | [], b => by simp [ws]
  | [a], b => by simp [ws]
  | a :: c :: r, b => by
    have := ws_snoc r b
    have e : (a :: c :: r).length % 2 = r.length % 2 := by simp only [List.length_cons]; omega
    rw [e, List.cons_append, List.cons_append]
    simp only [ws, this]; omega
theorem ws_bd : ∀ l : List UInt8, ws l ≤ 65535 * l.length
  | [] => by simp [ws]
  | [a] => by have := u8_bd a; simp [ws]; omega
  | a :: c :: r => by
    have := ws_bd r
    have h1 := u8_bd a
    have h2 := u8_bd c
    simp only [ws, List.length_cons]; omega
theorem ws_take (s : ByteArray) (k : Nat) (h : k < s.size) : ws (s.data.toList.take (k + 1)) = ws (s.data.toList.take k) + (if k % 2 = 0 then (s[k].toNat : Int) * 256 else s[k].toNat) := by
  have hl : k < s.data.toList.length := h
  rw [List.take_succ_eq_append_getElem hl, ws_snoc, List.length_take, Nat.min_eq_left (by omega)]
  rfl
theorem wsum_self (s : ByteArray) : wsum s = ws s.data.toList := by
  have := wsum_eq s.data.toList
  rwa [← ba_self s] at this

end Go.Proofs.YtmgjcjacoegocaaDoor.Wire
