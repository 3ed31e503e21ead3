/-
  The law UDPRoundTrip returns true: the walk joined with the plain facts.
-/
import Derived.Test.YteaihpiilimkcaaUdpRt
namespace Go.Proofs.Yteaihpiilimkcaa.Udp
open Go.RowKit Go.Proofs.Yteaihpiilimkcaa.Wire Go.Proofs.Yteaihpiilimkcaa.Gen

/-- the i-th byte of n, the lowest being number 0 -/
def nb (n i : Nat) : Nat := n / 256 ^ i % 256
theorem nb_xor (a b i : Nat) : nb (a ^^^ b) i = nb a i ^^^ nb b i := by
  unfold nb
  have e : ∀ n : Nat, n / 256 ^ i = n >>> (8 * i) := by
    intro n
    rw [Nat.shiftRight_eq_div_pow, Nat.pow_mul]
  rw [e, e, e, Nat.shiftRight_xor_distrib]
  exact Nat.xor_mod_two_pow (n := 8)
theorem ws_be4 (n : Nat) : ws (be 4 (n : Int)) = ((nb n 3 * 256 + nb n 2 + (nb n 1 * 256 + nb n 0) : Nat) : Int) := by
  have e : be 4 (n : Int) = [byte ((n : Int) / 256 / 256 / 256), byte ((n : Int) / 256 / 256), byte ((n : Int) / 256), byte (n : Int)] := by simp [be]
  rw [e]
  simp only [ws, byte_toNat, nb]
  omega
theorem xor_parts (x D : Nat) (hx : x < 256) (h1 : 1 ≤ D) (h2 : D < 256) : x ^^^ D < 256 ∧ x ^^^ D ≠ x := by
  refine ⟨Nat.xor_lt_two_pow (n := 8) hx h2, fun h => ?_⟩
  have h4 : x ^^^ (x ^^^ D) = x ^^^ x := by rw [h]
  rw [← Nat.xor_assoc, Nat.xor_self, Nat.zero_xor] at h4
  omega
theorem nb_lt (n i : Nat) : nb n i < 256 := Nat.mod_lt _ (by omega)
theorem ws_other (a D j : Nat) (h1 : 1 ≤ D) (h2 : D < 256) (hj : j < 4) : (ws (be 4 ((a ^^^ (D * 2 ^ (8 * j)) : Nat) : Int)) - ws (be 4 (a : Int))) % 65535 ≠ 0 := by
  rw [ws_be4, ws_be4, nb_xor, nb_xor, nb_xor, nb_xor]
  have hb : ∀ i, i < 4 → nb (D * 2 ^ (8 * j)) i = if i = j then D else 0 := by
    intro i hi
    have hj' : j = 0 ∨ j = 1 ∨ j = 2 ∨ j = 3 := by omega
    have hi' : i = 0 ∨ i = 1 ∨ i = 2 ∨ i = 3 := by omega
    rcases hj' with rfl | rfl | rfl | rfl <;> rcases hi' with rfl | rfl | rfl | rfl <;> simp [nb] <;> omega
  rw [hb 0 (by omega), hb 1 (by omega), hb 2 (by omega), hb 3 (by omega)]
  have p0 := xor_parts (nb a 0) D (nb_lt a 0) h1 h2
  have p1 := xor_parts (nb a 1) D (nb_lt a 1) h1 h2
  have p2 := xor_parts (nb a 2) D (nb_lt a 2) h1 h2
  have p3 := xor_parts (nb a 3) D (nb_lt a 3) h1 h2
  have q0 := nb_lt a 0
  have q1 := nb_lt a 1
  have q2 := nb_lt a 2
  have q3 := nb_lt a 3
  have hj' : j = 0 ∨ j = 1 ∨ j = 2 ∨ j = 3 := by omega
  rcases hj' with rfl | rfl | rfl | rfl <;> simp <;> omega

theorem flip_arg (R : List UInt8) (k : Nat) (hk : k < R.length) (v : UInt8) : ((⟨R.toArray⟩ : ByteArray).extract 0 k ++ ⟨#[v]⟩ ++ (⟨R.toArray⟩ : ByteArray).extract (k + 1) R.length) = ⟨(R.set k v).toArray⟩ := by
  have e1 : (⟨R.toArray⟩ : ByteArray).extract 0 k = ⟨(R.take k).toArray⟩ := by
    rw [ba_self ((⟨R.toArray⟩ : ByteArray).extract 0 k), ← ByteArray.toList_eq, extract_to]
  have e2 : (⟨R.toArray⟩ : ByteArray).extract (k + 1) R.length = ⟨(R.drop (k + 1)).toArray⟩ := by
    rw [ba_self ((⟨R.toArray⟩ : ByteArray).extract (k + 1) R.length), ← ByteArray.toList_eq, extract_from _ _ (by omega)]
  have e3 : (⟨#[v]⟩ : ByteArray) = ⟨[v].toArray⟩ := rfl
  rw [e1, e2, e3, ba_append, ba_append, List.set_eq_take_append_cons_drop, if_pos hk]
  simp
theorem bytesAt_list (R : List UInt8) (a k : Nat) : bytesAt ⟨R.toArray⟩ a k = (R.drop a).take k := rfl
theorem enc_len_field (a b f t : Int) (l : List UInt8) : ((enc a b f t l).drop 4).take 2 = be 2 (8 + l.length) := by
  unfold enc head
  rw [List.append_assoc, List.append_assoc, List.append_assoc, List.drop_append, List.drop_of_length_le (by simp [be_length]), List.nil_append, be_length, List.drop_append, List.drop_of_length_le (by simp [be_length]), List.nil_append, be_length]
  rw [List.drop_zero, List.take_append_of_le_length (by simp [be_length])]
  exact List.take_of_length_le (by simp [be_length])

theorem flip_list (a b : Int) (R : List UInt8) (h : decOk a b ⟨R.toArray⟩) (k : Nat) (v : UInt8) (hk : k < R.length) (hv : v ≠ R[k]) : ¬ decOk a b ⟨(R.set k v).toArray⟩ :=
  flip_bad a b ⟨R.toArray⟩ h k v hk hv
theorem shift_lt (d j : Nat) (hd : d < 255) (hj : j < 4) : (1 + d) * 2 ^ (8 * j) < 4294967296 := by
  have hj' : j = 0 ∨ j = 1 ∨ j = 2 ∨ j = 3 := by omega
  rcases hj' with rfl | rfl | rfl | rfl <;> simp <;> omega
theorem wrap_small (q : Nat) (h : q < 4294967296) : wrap64 (q : Int) = q := by unfold wrap64; omega
theorem other_eq (A : Int) (hA : 1 ≤ A ∧ A ≤ 4294967295) (d j : Nat) (hd : d < 255) (hj : j < 4) : bits .xor .i64 A (wrap64 ((1 + (d : Int)) * 2 ^ (8 * j))) = ((A.toNat ^^^ ((1 + d) * 2 ^ (8 * j)) : Nat) : Int) := by
  have hD := shift_lt d j hd hj
  have e0 : (1 + (d : Int)) * 2 ^ (8 * j) = (((1 + d) * 2 ^ (8 * j) : Nat) : Int) := by simp
  rw [e0, wrap_small _ hD]
  generalize (1 + d) * 2 ^ (8 * j) = q at *
  obtain ⟨a, rfl⟩ := Int.eq_ofNat_of_zero_le (show 0 ≤ A by omega)
  rw [Int.toNat_natCast]
  exact bits_xor _ _ (by omega) (by omega)
theorem other_bad (A B : Int) (hA : 1 ≤ A ∧ A ≤ 4294967295) (s : ByteArray) (h : decOk A B s) (d j : Nat) (hd : d < 255) (hj : j < 4) : ¬ decOk (bits .xor .i64 A (wrap64 ((1 + (d : Int)) * 2 ^ (8 * j)))) B s := by
  rw [other_eq A hA d j hd hj]
  refine source_bad A B _ s h ?_
  have := ws_other A.toNat (1 + d) j (by omega) (by omega) hj
  rwa [Int.toNat_of_nonneg (show 0 ≤ A by omega)] at this
theorem cut_bad (a b f t : Int) (l : List UInt8) (hl : l.length ≤ 200) : ¬ decOk a b ((⟨(enc a b f t l).toArray⟩ : ByteArray).extract 0 ((enc a b f t l).length - 1)) := by
  have hlf := enc_len_field a b f t l
  have l3 := enc_length a b f t l
  have hsz : ((⟨(enc a b f t l).toArray⟩ : ByteArray).extract 0 ((enc a b f t l).length - 1)).data.toList = (enc a b f t l).take ((enc a b f t l).length - 1) := by
    rw [← ByteArray.toList_eq, extract_to]
  have hsz2 : ((⟨(enc a b f t l).toArray⟩ : ByteArray).extract 0 ((enc a b f t l).length - 1)).size = 7 + l.length := by
    have : ((⟨(enc a b f t l).toArray⟩ : ByteArray).extract 0 ((enc a b f t l).length - 1)).data.toList.length = 7 + l.length := by
      rw [hsz, List.length_take]; omega
    exact this
  refine length_bad a b l (by omega) _ (by omega) (by omega) ?_
  unfold bytesAt
  rw [hsz, ← hlf]
  generalize enc a b f t l = R at *
  rw [List.drop_take, List.take_take]
  congr 1
  omega
theorem more_bad (a b f t : Int) (l : List UInt8) (hl : l.length ≤ 200) : ¬ decOk a b ⟨(enc a b f t l ++ [120]).toArray⟩ := by
  have hlf := enc_len_field a b f t l
  have l3 := enc_length a b f t l
  have hs : (⟨(enc a b f t l ++ [120]).toArray⟩ : ByteArray).size = 9 + l.length := by rw [sz, List.length_append, l3]; simp; omega
  refine length_bad a b l (by omega) _ (by omega) (by omega) ?_
  rw [bytesAt_list, ← hlf]
  generalize enc a b f t l = R at *
  rw [List.drop_append_of_le_length (by omega), List.take_append_of_le_length (by simp; omega)]

theorem round_law (x0 x1 x2 x3 x4 at_ by_ : Int) (xs : ByteArray) (w : World)
    (hx0 : -9223372036854775808 ≤ x0 ∧ x0 ≤ 9223372036854775807) (hx1 : -9223372036854775808 ≤ x1 ∧ x1 ≤ 9223372036854775807) (hx2 : -9223372036854775808 ≤ x2 ∧ x2 ≤ 9223372036854775807) (hx3 : -9223372036854775808 ≤ x3 ∧ x3 ≤ 9223372036854775807) (hx4 : -9223372036854775808 ≤ x4 ∧ x4 ≤ 9223372036854775807) (hxs : xs.size ≤ 9223372036854775807)
    (hat : -9223372036854775808 ≤ at_ ∧ at_ ≤ 9223372036854775807) (hby : -9223372036854775808 ≤ by_ ∧ by_ ≤ 9223372036854775807) :
    Calls Try.prog 5 #[.agg #[.int .i64 x0, .int .i64 x1, .int .i64 x2, .int .i64 x3, .int .i64 x4, .string xs], .int .i64 at_, .int .i64 by_] w fun e w' => e = .returned (.bool true) ∧ Below w.heap.size w w' := by
  have ll := dataOf_length xs x4
  have o3 := ok_of (addrOf x0) (addrOf x1) (portOf x2) (portOf x3) (dataOf xs x4) (addrOf_bd x0) (addrOf_bd x1) (portOf_bd x2) (portOf_bd x3) (by omega)
  have l3 := enc_length (addrOf x0) (addrOf x1) (portOf x2) (portOf x3) (dataOf xs x4)
  have hrd := round _ _ _ _ _ o3
  have hA := addrOf_bd x0
  have hlf := enc_len_field (addrOf x0) (addrOf x1) (portOf x2) (portOf x3) (dataOf xs x4)
  have hdec : ∀ w, Calls Try.prog 16 #[.int .i64 (addrOf x0), .int .i64 (addrOf x1), .string ⟨(enc (addrOf x0) (addrOf x1) (portOf x2) (portOf x3) (dataOf xs x4)).toArray⟩] w fun e w' => e = .returned (.tuple #[.agg #[.int .i64 (portOf x2), .int .i64 (portOf x3), .string ⟨(dataOf xs x4).toArray⟩], .int .i64 0]) ∧ Below w.heap.size w w' := by
    intro w
    have h := Decode_good _ _ _ w (by rw [sz, l3]; omega) hrd
    have hp2 := portOf_bd x2
    have hp3 := portOf_bd x3
    rw [enc_from _ _ _ _ _ (by omega) (by omega), enc_to _ _ _ _ _ (by omega) (by omega)] at h
    have e3 := enc_rest (addrOf x0) (addrOf x1) (portOf x2) (portOf x3) (dataOf xs x4)
    have e4 := ba_self ((⟨(enc (addrOf x0) (addrOf x1) (portOf x2) (portOf x3) (dataOf xs x4)).toArray⟩ : ByteArray).extract 8 (⟨(enc (addrOf x0) (addrOf x1) (portOf x2) (portOf x3) (dataOf xs x4)).toArray⟩ : ByteArray).size)
    rw [e3] at e4
    rw [e4] at h
    exact h
  refine round_walk x0 x1 x2 x3 x4 at_ by_ (portOf x2) (portOf x3) xs (dataOf xs x4) (enc (addrOf x0) (addrOf x1) (portOf x2) (portOf x3) (dataOf xs x4)) w hx0 hx1 hat hby ll l3
    (fun w => datagramFrom_any x0 x1 x2 x3 x4 xs w hx2 hx3 hx4 hxs) (Encode_list _ _ _ _ _ o3) ?_ ?_ ?_ ?_ hdec
  · intro v k hk hv w
    rw [flip_arg _ _ hk]
    exact Decode_err _ _ _ w (by rw [sz, List.length_set]; omega) (flip_list _ _ _ hrd k v hk hv)
  · intro d j hd hj w
    exact Decode_err _ _ _ w (by rw [sz]; omega) (other_bad _ _ hA _ hrd d j hd hj)
  · intro w
    exact Decode_err _ _ _ w (by have : ((⟨(enc (addrOf x0) (addrOf x1) (portOf x2) (portOf x3) (dataOf xs x4)).toArray⟩ : ByteArray).extract 0 ((enc (addrOf x0) (addrOf x1) (portOf x2) (portOf x3) (dataOf xs x4)).length - 1)).size ≤ (enc (addrOf x0) (addrOf x1) (portOf x2) (portOf x3) (dataOf xs x4)).length - 1 := by simp; omega
                                 omega) (cut_bad _ _ _ _ _ ll)
  · intro w
    have e : (⟨(enc (addrOf x0) (addrOf x1) (portOf x2) (portOf x3) (dataOf xs x4)).toArray⟩ : ByteArray) ++ ⟨#[120]⟩ = ⟨(enc (addrOf x0) (addrOf x1) (portOf x2) (portOf x3) (dataOf xs x4) ++ [120]).toArray⟩ := ba_append _ [120]
    rw [e]
    exact Decode_err _ _ _ w (by rw [sz, List.length_append, l3]; simp; omega) (more_bad _ _ _ _ _ ll)

end Go.Proofs.Yteaihpiilimkcaa.Udp
