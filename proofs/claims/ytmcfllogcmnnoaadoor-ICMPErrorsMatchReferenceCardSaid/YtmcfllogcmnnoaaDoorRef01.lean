/-
  Contracts of the reference of chapter 1: Put, Get and Checksum give what the program's own functions give.
-/
import Derived.Test.YtmcfllogcmnnoaaDoorPlain
namespace Go.Proofs.YtmcfllogcmnnoaaDoor.Wire
set_option maxRecDepth 100000
open Go.RowKit

theorem pow_bd (k : Nat) (h : k ≤ 4) : (1 : Int) ≤ 256 ^ k ∧ (256 : Int) ^ k ≤ 4294967296 := by
  have : k = 0 ∨ k = 1 ∨ k = 2 ∨ k = 3 ∨ k = 4 := by omega
  rcases this with rfl | rfl | rfl | rfl | rfl <;> simp

set_option maxHeartbeats 400000 in
theorem power_any (b : Nat) (w : World) (hb : b ≤ 4) :
    Calls Tryd.prog 93 #[.int .i64 (b : Int)] w fun e w' => e = .returned (.int .i64 (256 ^ b)) ∧ w = w' := by
  go_enter Tryd.func93, Tryd.ntmps93
  go_wp2
  go_loop [3, 4] (fun n i => ∃ k : Nat, k ≤ b ∧ i = .int .i64 (k : Int) ∧ n = .int .i64 (256 ^ k)) (fun _ i => b - (intOf i).toNat)
  case atStart => exact ⟨0, by omega, rfl, rfl⟩
  case round =>
    obtain ⟨k, hk, rfl, rfl⟩ := hrel
    have hp := pow_bd k (by omega)
    have Hs : Hid ((256 : Int) ^ (k + 1) = 256 * 256 ^ k) := Lib.hid (by rw [Int.pow_succ]; omega)
    generalize hpe : (256 : Int) ^ k = p at *
    have Hp := Lib.hid hpe
    clear hpe
    by_cases hlt : k < b
    · go_wp2
      go_round
      case rel => exact ⟨k + 1, by omega, by go_num, by rw [Hs.out]⟩
      case measure => simp [intOf]; omega
    · go_wp2
      go_ret
      exact ⟨ret_int (by rw [← Hp.out, show k = b from by omega]), rfl⟩

theorem be_cons (k : Nat) (n : Int) : be (k + 1) n = byte (n / 256 ^ k) :: be k n := by
  induction k generalizing n with
  | zero => simp [be]
  | succ k ih =>
    rw [be, ih (n / 256), be]
    have e : n / 256 / 256 ^ k = n / 256 ^ (k + 1) := by rw [Int.pow_succ, Int.mul_comm, Int.ediv_ediv_of_nonneg (by omega)]
    rw [e]; rfl
theorem conv_one (W : World) (b : Nat) (m : Int) (h : W.cell? ⟨b, 0, none⟩ = some (.int .u8 m)) : (convert 47 9 (.slice (some ⟨b, 0, none⟩) 1 1)).run Tryd.prog W = .ok (.string ⟨#[UInt8.ofNat m.toNat]⟩) W := by
  rw [run_convert_bytes_arg W 47 5 Tryd.underlying47 Tryd.underlying5 b 0 1 1 [m] rfl ?_ 9 Tryd.underlying9]
  · rfl
  · intro i hi
    obtain rfl : i = 0 := by omega
    exact h

set_option maxHeartbeats 1000000 in
theorem rput_ok (n : Int) (b : Nat) (w : World) (h1 : 1 ≤ b) (h4 : b ≤ 4) (h0 : 0 ≤ n) (hn : n < 256 ^ b) :
    Calls Tryd.prog 85 #[.int .i64 n, .int .i64 (b : Int)] w fun e w' => e = .returned (.tuple #[.string ⟨(be b n).toArray⟩, .int .i64 0]) ∧ Below w.heap.size w w' := by
  have hcv := conv_one
  have bl := be_length
  have hp := pow_bd b h4
  have HP := Lib.hid fun w => power_any b w h4
  generalize (256 : Int) ^ b = pw at *
  go_enter Tryd.func85, Tryd.ntmps85
  go_wp2_with (go_at_call 93; refine (HP.out _).mono ?_; rintro e w' ⟨rfl, rfl⟩)
  go_loopw [0, 6, 7] (fun m s i wr => ∃ k : Nat, k ≤ b ∧ i = .int .i64 (k : Int) ∧ m = .int .i64 (n / 256 ^ k) ∧ s = .string ⟨(be k n).toArray⟩ ∧ Below w.heap.size w wr) (fun _ _ i _ => b - (intOf i).toNat)
  case atStart => exact ⟨0, by omega, rfl, by simp, rfl, Below.refl _ _⟩
  case round =>
    obtain ⟨k, hk, rfl, rfl, rfl, hB⟩ := hrel
    have hq : 0 ≤ n / 256 ^ k ∧ n / 256 ^ k ≤ n := by
      have := pow_bd k (by omega)
      exact ⟨Int.ediv_nonneg h0 (by omega), Int.ediv_le_self _ h0⟩
    have Hs : Hid (n / 256 ^ (k + 1) = n / 256 ^ k / 256) := Lib.hid (by rw [Int.pow_succ, Int.ediv_ediv_of_nonneg (by have := pow_bd k (by omega); omega)])
    have Hc := Lib.hid (be_cons k n)
    generalize n / 256 ^ k = q at *
    by_cases hlt : k < b
    · go_wp2_with fail
      refine ⟨⟨k + 1, by omega, by go_num, by rw [Hs.out], ?_, below_alloc hB⟩, by simp [intOf]; omega⟩
      rw [Hc.out]
      exact congrArg Value.string (ba_append [byte q] (be k n))
    · obtain rfl : k = b := by omega
      go_wp2_with fail
      go_ret2
      exact ⟨rfl, hB⟩

set_option maxHeartbeats 400000 in
theorem rput_no (n b : Int) (w : World) (h : ¬ putOk n b) :
    Calls Tryd.prog 85 #[.int .i64 n, .int .i64 b] w fun e w' => e = .returned (.tuple #[.string ⟨#[]⟩, .int .i64 10]) ∧ w = w' := by
  by_cases c1 : b < 1
  · clear h
    go_enter Tryd.func85, Tryd.ntmps85
    go_wp2_with fail
    go_ret2
    exact ⟨rfl, rfl⟩
  by_cases c2 : 4 < b
  · clear h
    go_enter Tryd.func85, Tryd.ntmps85
    go_wp2_with fail
    go_ret2
    exact ⟨rfl, rfl⟩
  by_cases c3 : n < 0
  · clear h
    go_enter Tryd.func85, Tryd.ntmps85
    go_wp2_with fail
    go_ret2
    exact ⟨rfl, rfl⟩
  obtain ⟨b, rfl⟩ := Int.eq_ofNat_of_zero_le (show 0 ≤ b by omega)
  have h2 : 256 ^ b ≤ n := by
    rcases Int.lt_or_le n (256 ^ b) with q | q
    · exact absurd ⟨by omega, by omega, by omega, by simpa using q⟩ h
    · exact q
  have HP := Lib.hid fun w => power_any b w (by omega)
  generalize (256 : Int) ^ b = pw at *
  clear h
  go_enter Tryd.func85, Tryd.ntmps85
  go_wp2_with (go_at_call 93; refine (HP.out _).mono ?_; rintro e w' ⟨rfl, rfl⟩)
  go_ret2
  exact ⟨rfl, rfl⟩

/-- the first k bytes from a on, as the loop of Get reads them -/
theorem bytesAt_succ (s : ByteArray) (a k : Nat) (h : a + k < s.size) : bytesAt s a (k + 1) = bytesAt s a k ++ [s[a + k]] := by
  unfold bytesAt
  have hl : k < (s.data.toList.drop a).length := by
    have : s.data.toList.length = s.size := rfl
    rw [List.length_drop]; omega
  rw [List.take_succ_eq_append_getElem hl, List.getElem_drop]
  rfl
theorem bytesAt_bd (s : ByteArray) (a k : Nat) (hk : k ≤ 4) : 0 ≤ num (bytesAt s a k) ∧ num (bytesAt s a k) ≤ 4294967296 := by
  have h := num_bd (bytesAt s a k)
  have hl : (bytesAt s a k).length ≤ 4 := by unfold bytesAt; rw [List.length_take]; omega
  have := pow_bd _ hl
  omega

set_option maxHeartbeats 1000000 in
theorem rget_ok (s : ByteArray) (a b : Nat) (w : World) (h1 : 1 ≤ b) (h4 : b ≤ 4) (hm : s.size ≤ 9223372036854775807) (hn : a + b ≤ s.size) :
    Calls Tryd.prog 42 #[.string s, .int .i64 (a : Int), .int .i64 (b : Int)] w fun e w' => e = .returned (.tuple #[.int .i64 (num (bytesAt s a b)), .int .i64 0]) ∧ w = w' := by
  have z1 : decide ((b : Int) < 1) = false := by simp; omega
  have z2 : decide ((4 : Int) < (b : Int)) = false := by simp; omega
  have z3 : decide ((a : Int) < 0) = false := by simp
  have z4 : decide (s.size < a) = false := by simp; omega
  have z5 : decide ((s.size : Int) - (a : Int) < (b : Int)) = false := by simp; omega
  go_enter Tryd.func42, Tryd.ntmps42
  go_wp2_with fail
  go_loop [8, 9] (fun n i => ∃ k : Nat, k ≤ b ∧ i = .int .i64 ((a : Int) + k) ∧ n = .int .i64 (num (bytesAt s a k))) (fun _ i => a + b - (intOf i).toNat)
  case atStart => exact ⟨0, by omega, by simp, by simp [bytesAt, num]⟩
  case round =>
    obtain ⟨k, hk, rfl, rfl⟩ := hrel
    have hbd := bytesAt_bd s a k (by omega)
    by_cases hlt : k < b
    · have Hs := Lib.hid (bytesAt_succ s a k (by omega))
      have hb := u8_bd s[a + k]
      have hix : a + k < s.size := by omega
      have Hn : Hid (num (bytesAt s a k ++ [s[a + k]]) = num (bytesAt s a k) * 256 + (s[a + k].toNat : Int)) := Lib.hid (num_snoc _ _)
      generalize num (bytesAt s a k) = N at *
      go_wp2_with fail
      go_round
      case rel => exact ⟨k + 1, by omega, by go_num, by rw [Hs.out, Hn.out, Int.mul_comm]⟩
      case measure => simp [intOf]; omega
    · obtain rfl : k = b := by omega
      go_wp2_with fail
      go_ret2
      exact ⟨rfl, rfl⟩

set_option maxHeartbeats 400000 in
theorem rget_no (s : ByteArray) (a b : Int) (w : World) (_ : s.size ≤ 9223372036854775807) (h : ¬ (1 ≤ b ∧ b ≤ 4 ∧ 0 ≤ a ∧ a + b ≤ s.size)) :
    Calls Tryd.prog 42 #[.string s, .int .i64 a, .int .i64 b] w fun e w' => e = .returned (.tuple #[.int .i64 0, .int .i64 10]) ∧ w = w' := by
  by_cases c1 : b < 1
  · clear h
    go_enter Tryd.func42, Tryd.ntmps42
    go_wp2
    go_ret2
    exact ⟨rfl, rfl⟩
  by_cases c2 : 4 < b
  · clear h
    go_enter Tryd.func42, Tryd.ntmps42
    go_wp2
    go_ret2
    exact ⟨rfl, rfl⟩
  by_cases c3 : a < 0
  · clear h
    go_enter Tryd.func42, Tryd.ntmps42
    go_wp2
    go_ret2
    exact ⟨rfl, rfl⟩
  by_cases c4 : (s.size : Int) < a
  · clear h
    go_enter Tryd.func42, Tryd.ntmps42
    go_wp2
    go_ret2
    exact ⟨rfl, rfl⟩
  have c5 : (s.size : Int) - a < b := by omega
  clear h
  go_enter Tryd.func42, Tryd.ntmps42
  go_wp2
  go_ret2
  exact ⟨rfl, rfl⟩

theorem ws_snoc : ∀ (l : List UInt8) (b : UInt8), ws (l ++ [b]) = ws l + (if l.length % 2 = 0 then (b.toNat : Int) * 256 else b.toNat)
  | [], b => by simp [ws]
  | [a], b => by simp [ws]
  | a :: c :: r, b => by
    have := ws_snoc r b
    have e : (a :: c :: r).length % 2 = r.length % 2 := by simp only [List.length_cons]; omega
    rw [e, List.cons_append, List.cons_append]
    simp only [ws, this]; omega
theorem ws_bd : ∀ l : List UInt8, ws l ≤ 65535 * l.length
  | [] => by simp [ws]
  | [a] => by have := u8_bd a; simp [ws]; omega
  | a :: c :: r => by
    have := ws_bd r
    have h1 := u8_bd a
    have h2 := u8_bd c
    simp only [ws, List.length_cons]; omega
theorem ws_take (s : ByteArray) (k : Nat) (h : k < s.size) : ws (s.data.toList.take (k + 1)) = ws (s.data.toList.take k) + (if k % 2 = 0 then (s[k].toNat : Int) * 256 else s[k].toNat) := by
  have hl : k < s.data.toList.length := h
  rw [List.take_succ_eq_append_getElem hl, ws_snoc, List.length_take, Nat.min_eq_left (by omega)]
  rfl
theorem wsum_self (s : ByteArray) : wsum s = ws s.data.toList := by
  have := wsum_eq s.data.toList
  rwa [← ba_self s] at this

set_option maxHeartbeats 1000000 in
theorem rchecksum_any (s : ByteArray) (w : World) (hs : s.size ≤ 1000000) :
    Calls Tryd.prog 39 #[.string s] w fun e w' => e = .returned (.int .i64 (csum s)) ∧ w = w' := by
  have hgoal : Hid (csum s = 65535 - fold (ws s.data.toList)) := Lib.hid (by unfold csum; rw [wsum_self])
  go_enter Tryd.func39, Tryd.ntmps39
  go_wp2
  go_loop [3, 4] (fun n i => ∃ k : Nat, k ≤ s.size ∧ i = .int .i64 (k : Int) ∧ n = .int .i64 (ws (s.data.toList.take k))) (fun _ i => s.size - (intOf i).toNat)
  case atStart => exact ⟨0, by omega, rfl, by simp [ws]⟩
  case round =>
    obtain ⟨k, hk, rfl, rfl⟩ := hrel
    have hb1 := ws_nonneg (s.data.toList.take k)
    have hb2 : ws (s.data.toList.take k) ≤ 65535 * 1000000 := by
      have h1 := ws_bd (s.data.toList.take k)
      have h2 : (s.data.toList.take k).length ≤ k := List.length_take_le _ _
      omega
    by_cases hlt : k < s.size
    · have hb := u8_bd s[k]
      have Ht := Lib.hid (ws_take s k hlt)
      generalize ws (s.data.toList.take k) = N at *
      by_cases he : k % 2 = 0
      · have e1 : ((k : Int) % 2 == 0) = true := by simp; omega
        have He := Lib.hid he
        clear he
        go_wp2
        go_round
        case rel => exact ⟨k + 1, by omega, by go_num, by rw [Ht.out, if_pos He.out, Int.mul_comm]⟩
        case measure => simp [intOf]; omega
      · have e1 : ((k : Int) % 2 == 0) = false := by simp; omega
        have He := Lib.hid he
        clear he
        go_wp2
        go_round
        case rel => exact ⟨k + 1, by omega, by go_num, by rw [Ht.out, if_neg He.out]⟩
        case measure => simp [intOf]; omega
    · have Hall : Hid (ws (s.data.toList.take k) = ws s.data.toList) := Lib.hid (by rw [List.take_of_length_le (show s.data.toList.length ≤ k by have : s.data.toList.length = s.size := rfl; omega)])
      generalize ws (s.data.toList.take k) = N at *
      go_wp2
      go_loop [3] (fun n => ∃ m : Int, n = .int .i64 m ∧ fold m = fold N ∧ 0 ≤ m ∧ m ≤ 65535 * 1000000) (fun n => (intOf n).toNat)
      case atStart => exact ⟨N, rfl, rfl, hb1, hb2⟩
      case round =>
        obtain ⟨m, rfl, hm, hm0, hm1⟩ := hrel
        have Hm := Lib.hid hm
        clear hm
        by_cases hlt2 : 65535 < m
        · go_wp2
          go_round
          case rel => exact ⟨_, rfl, by rw [fold_step m hlt2]; exact Hm.out, by omega, by omega⟩
          case measure => simp [intOf]; omega
        · go_wp2
          go_ret
          exact ⟨ret_int (by rw [hgoal.out, ← Hall.out, ← Hm.out, fold_small m (by omega)]), rfl⟩
end Go.Proofs.YtmcfllogcmnnoaaDoor.Wire
