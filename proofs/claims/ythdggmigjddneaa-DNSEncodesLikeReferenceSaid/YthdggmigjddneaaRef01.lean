/-
  Contracts of the reference of chapter 1: Put, Get and Checksum give what the program's own functions give.
-/
import Derived.Test.YthdggmigjddneaaPlain
import Derived.Test.YthdggmigjddneaaWire
import Derived.Test.YthdggmigjddneaaBase0
namespace Go.Proofs.Ythdggmigjddneaa.Wire
set_option maxRecDepth 100000
open Go.RowKit

theorem pow_bd (k : Nat) (h : k ≤ 4) : (1 : Int) ≤ 256 ^ k ∧ (256 : Int) ^ k ≤ 4294967296 := by
  have : k = 0 ∨ k = 1 ∨ k = 2 ∨ k = 3 ∨ k = 4 := by omega
  rcases this with rfl | rfl | rfl | rfl | rfl <;> simp

set_option maxHeartbeats 400000 in
theorem power_any (b : Nat) (w : World) (hb : b ≤ 4) :
    Calls Try.prog 53 #[.int .i64 (b : Int)] w fun e w' => e = .returned (.int .i64 (256 ^ b)) ∧ w = w' := by
  go_enter Try.func53, Try.ntmps53
  go_wp2
  go_loop [3, 4] (fun n i => ∃ k : Nat, k ≤ b ∧ i = .int .i64 (k : Int) ∧ n = .int .i64 (256 ^ k)) (fun _ i => b - (intOf i).toNat)
  case atStart => exact ⟨0, by omega, rfl, rfl⟩
  case round =>
    obtain ⟨k, hk, rfl, rfl⟩ := hrel
    have hp := pow_bd k (by omega)
    have Hs : Hid ((256 : Int) ^ (k + 1) = 256 * 256 ^ k) := Lib.hid (by rw [Int.pow_succ]; omega)
    generalize hpe : (256 : Int) ^ k = p at *
    have Hp := Lib.hid hpe
    clear hpe
    by_cases hlt : k < b
    · go_wp2
      go_round
      case rel => exact ⟨k + 1, by omega, by go_num, by rw [Hs.out]⟩
      case measure => simp [intOf]; omega
    · go_wp2
      go_ret
      exact ⟨ret_int (by rw [← Hp.out, show k = b from by omega]), rfl⟩

theorem be_cons (k : Nat) (n : Int) : be (k + 1) n = byte (n / 256 ^ k) :: be k n := by
  induction k generalizing n with
  | zero => simp [be]
  | succ k ih =>
    rw [be, ih (n / 256), be]
    have e : n / 256 / 256 ^ k = n / 256 ^ (k + 1) := by rw [Int.pow_succ, Int.mul_comm, Int.ediv_ediv_of_nonneg (by omega)]
    rw [e]; rfl
theorem conv_one (W : World) (b : Nat) (m : Int) (h : W.cell? ⟨b, 0, none⟩ = some (.int .u8 m)) : (convert 42 9 (.slice (some ⟨b, 0, none⟩) 1 1)).run Try.prog W = .ok (.string ⟨#[UInt8.ofNat m.toNat]⟩) W := by
  rw [run_convert_bytes_arg W 42 5 Try.underlying42 Try.underlying5 b 0 1 1 [m] rfl ?_ 9 Try.underlying9]
  · rfl
  · intro i hi
    obtain rfl : i = 0 := by omega
    exact h

set_option maxHeartbeats 1000000 in
theorem rput_ok (n : Int) (b : Nat) (w : World) (h1 : 1 ≤ b) (h4 : b ≤ 4) (h0 : 0 ≤ n) (hn : n < 256 ^ b) :
    Calls Try.prog 44 #[.int .i64 n, .int .i64 (b : Int)] w fun e w' => e = .returned (.tuple #[.string ⟨(be b n).toArray⟩, .int .i64 0]) ∧ Below w.heap.size w w' := by
  have hcv := conv_one
  have bl := be_length
  have hp := pow_bd b h4
  have HP := Lib.hid fun w => power_any b w h4
  generalize (256 : Int) ^ b = pw at *
  go_enter Try.func44, Try.ntmps44
  go_wp2_with (go_at_call 53; refine (HP.out _).mono ?_; rintro e w' ⟨rfl, rfl⟩)
  go_loopw [0, 6, 7] (fun m s i wr => ∃ k : Nat, k ≤ b ∧ i = .int .i64 (k : Int) ∧ m = .int .i64 (n / 256 ^ k) ∧ s = .string ⟨(be k n).toArray⟩ ∧ Below w.heap.size w wr) (fun _ _ i _ => b - (intOf i).toNat)
  case atStart => exact ⟨0, by omega, rfl, by simp, rfl, Below.refl _ _⟩
  case round =>
    obtain ⟨k, hk, rfl, rfl, rfl, hB⟩ := hrel
    have hq : 0 ≤ n / 256 ^ k ∧ n / 256 ^ k ≤ n := by
      have := pow_bd k (by omega)
      exact ⟨Int.ediv_nonneg h0 (by omega), Int.ediv_le_self _ h0⟩
    have Hs : Hid (n / 256 ^ (k + 1) = n / 256 ^ k / 256) := Lib.hid (by rw [Int.pow_succ, Int.ediv_ediv_of_nonneg (by have := pow_bd k (by omega); omega)])
    have Hc := Lib.hid (be_cons k n)
    generalize n / 256 ^ k = q at *
    by_cases hlt : k < b
    · go_wp2_with fail
      refine ⟨⟨k + 1, by omega, by go_num, by rw [Hs.out], ?_, below_alloc hB⟩, by simp [intOf]; omega⟩
      rw [Hc.out]
      exact congrArg Value.string (ba_append [byte q] (be k n))
    · obtain rfl : k = b := by omega
      go_wp2_with fail
      go_ret2
      exact ⟨rfl, hB⟩

set_option maxHeartbeats 400000 in
theorem rput_no (n b : Int) (w : World) (h : ¬ putOk n b) :
    Calls Try.prog 44 #[.int .i64 n, .int .i64 b] w fun e w' => e = .returned (.tuple #[.string ⟨#[]⟩, .int .i64 10]) ∧ w = w' := by
  by_cases c1 : b < 1
  · clear h
    go_enter Try.func44, Try.ntmps44
    go_wp2_with fail
    go_ret2
    exact ⟨rfl, rfl⟩
  by_cases c2 : 4 < b
  · clear h
    go_enter Try.func44, Try.ntmps44
    go_wp2_with fail
    go_ret2
    exact ⟨rfl, rfl⟩
  by_cases c3 : n < 0
  · clear h
    go_enter Try.func44, Try.ntmps44
    go_wp2_with fail
    go_ret2
    exact ⟨rfl, rfl⟩
  obtain ⟨b, rfl⟩ := Int.eq_ofNat_of_zero_le (show 0 ≤ b by omega)
  have h2 : 256 ^ b ≤ n := by
    rcases Int.lt_or_le n (256 ^ b) with q | q
    · exact absurd ⟨by omega, by omega, by omega, by simpa using q⟩ h
    · exact q
  have HP := Lib.hid fun w => power_any b w (by omega)
  generalize (256 : Int) ^ b = pw at *
  clear h
  go_enter Try.func44, Try.ntmps44
  go_wp2_with (go_at_call 53; refine (HP.out _).mono ?_; rintro e w' ⟨rfl, rfl⟩)
  go_ret2
  exact ⟨rfl, rfl⟩

/-- the first k bytes from a on, as the loop of Get reads them -/
theorem bytesAt_succ (s : ByteArray) (a k : Nat) (h : a + k < s.size) : bytesAt s a (k + 1) = bytesAt s a k ++ [s[a + k]] := by
  unfold bytesAt
  have hl : k < (s.data.toList.drop a).length := by
    have : s.data.toList.length = s.size := rfl
    rw [List.length_drop]; omega
  rw [List.take_succ_eq_append_getElem hl, List.getElem_drop]
  rfl
theorem bytesAt_bd (s : ByteArray) (a k : Nat) (hk : k ≤ 4) : 0 ≤ num (bytesAt s a k) ∧ num (bytesAt s a k) ≤ 4294967296 := by
  have h := num_bd (bytesAt s a k)
  have hl : (bytesAt s a k).length ≤ 4 := by unfold bytesAt; rw [List.length_take]; omega
  have := pow_bd _ hl
  omega

set_option maxHeartbeats 1000000 in
theorem rget_ok (s : ByteArray) (a b : Nat) (w : World) (h1 : 1 ≤ b) (h4 : b ≤ 4) (hm : s.size ≤ 9223372036854775807) (hn : a + b ≤ s.size) :
    Calls Try.prog 50 #[.string s, .int .i64 (a : Int), .int .i64 (b : Int)] w fun e w' => e = .returned (.tuple #[.int .i64 (num (bytesAt s a b)), .int .i64 0]) ∧ w = w' := by
  have z1 : decide ((b : Int) < 1) = false := by simp; omega
  have z2 : decide ((4 : Int) < (b : Int)) = false := by simp; omega
  have z3 : decide ((a : Int) < 0) = false := by simp
  have z4 : decide (s.size < a) = false := by simp; omega
  have z5 : decide ((s.size : Int) - (a : Int) < (b : Int)) = false := by simp; omega
  go_enter Try.func50, Try.ntmps50
  go_wp2_with fail
  go_loop [8, 9] (fun n i => ∃ k : Nat, k ≤ b ∧ i = .int .i64 ((a : Int) + k) ∧ n = .int .i64 (num (bytesAt s a k))) (fun _ i => a + b - (intOf i).toNat)
  case atStart => exact ⟨0, by omega, by simp, by simp [bytesAt, num]⟩
  case round =>
    obtain ⟨k, hk, rfl, rfl⟩ := hrel
    have hbd := bytesAt_bd s a k (by omega)
    by_cases hlt : k < b
    · have Hs := Lib.hid (bytesAt_succ s a k (by omega))
      have hb := u8_bd s[a + k]
      have hix : a + k < s.size := by omega
      have Hn : Hid (num (bytesAt s a k ++ [s[a + k]]) = num (bytesAt s a k) * 256 + (s[a + k].toNat : Int)) := Lib.hid (num_snoc _ _)
      generalize num (bytesAt s a k) = N at *
      go_wp2_with fail
      go_round
      case rel => exact ⟨k + 1, by omega, by go_num, by rw [Hs.out, Hn.out, Int.mul_comm]⟩
      case measure => simp [intOf]; omega
    · obtain rfl : k = b := by omega
      go_wp2_with fail
      go_ret2
      exact ⟨rfl, rfl⟩

set_option maxHeartbeats 400000 in
theorem rget_no (s : ByteArray) (a b : Int) (w : World) (_ : s.size ≤ 9223372036854775807) (h : ¬ (1 ≤ b ∧ b ≤ 4 ∧ 0 ≤ a ∧ a + b ≤ s.size)) :
    Calls Try.prog 50 #[.string s, .int .i64 a, .int .i64 b] w fun e w' => e = .returned (.tuple #[.int .i64 0, .int .i64 10]) ∧ w = w' := by
  by_cases c1 : b < 1
  · clear h
    go_enter Try.func50, Try.ntmps50
    go_wp2
    go_ret2
    exact ⟨rfl, rfl⟩
  by_cases c2 : 4 < b
  · clear h
    go_enter Try.func50, Try.ntmps50
    go_wp2
    go_ret2
    exact ⟨rfl, rfl⟩
  by_cases c3 : a < 0
  · clear h
    go_enter Try.func50, Try.ntmps50
    go_wp2
    go_ret2
    exact ⟨rfl, rfl⟩
  by_cases c4 : (s.size : Int) < a
  · clear h
    go_enter Try.func50, Try.ntmps50
    go_wp2
    go_ret2
    exact ⟨rfl, rfl⟩
  have c5 : (s.size : Int) - a < b := by omega
  clear h
  go_enter Try.func50, Try.ntmps50
  go_wp2
  go_ret2
  exact ⟨rfl, rfl⟩


end Go.Proofs.Ythdggmigjddneaa.Wire
