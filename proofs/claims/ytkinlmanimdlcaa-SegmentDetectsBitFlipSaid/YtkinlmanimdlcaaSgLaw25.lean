/-
  The walk of the law SegmentDetectsBitFlip of chapter 11.
-/
import Derived.Test.YtkinlmanimdlcaaSgArg
import Derived.Test.YtkinlmanimdlcaaSgEx
import Derived.Test.YtkinlmanimdlcaaHeld
import Derived.Deep.RegionHeld3
import Derived.Deep.QuietTactic
namespace Go.Proofs.Ytkinlmanimdlcaa.Sg
open Go.RowKit Go.Proofs.Ytkinlmanimdlcaa.Wire

theorem conv_one (W : World) (b : Nat) (m : Int) (h : W.cell? ⟨b, 0, none⟩ = some (.int .u8 m)) : (convert 38 9 (.slice (some ⟨b, 0, none⟩) 1 1)).run Try.prog W = .ok (.string ⟨#[UInt8.ofNat m.toNat]⟩) W := by
  rw [run_convert_bytes_arg W 38 5 Try.underlying38 Try.underlying5 b 0 1 1 [m] rfl ?_ 9 Try.underlying9]
  · rfl
  · intro i hi
    obtain rfl : i = 0 := by omega
    exact h
theorem shl8 (b : Int) (h0 : 0 ≤ b) : ∃ j : Nat, j < 8 ∧ ∀ W : World, (Op.shift .shl .u8 1 .u8 (b.tmod 8)).run Try.prog W = .ok (.int .u8 ((2 ^ j : Nat) : Int)) W := by
  rw [Int.tmod_eq_emod_of_nonneg h0]
  have h : b % 8 = 0 ∨ b % 8 = 1 ∨ b % 8 = 2 ∨ b % 8 = 3 ∨ b % 8 = 4 ∨ b % 8 = 5 ∨ b % 8 = 6 ∨ b % 8 = 7 := by omega
  rcases h with e | e | e | e | e | e | e | e <;> rw [e]
  · exact ⟨0, by omega, fun _ => by rfl⟩
  · exact ⟨1, by omega, fun _ => by rfl⟩
  · exact ⟨2, by omega, fun _ => by rfl⟩
  · exact ⟨3, by omega, fun _ => by rfl⟩
  · exact ⟨4, by omega, fun _ => by rfl⟩
  · exact ⟨5, by omega, fun _ => by rfl⟩
  · exact ⟨6, by omega, fun _ => by rfl⟩
  · exact ⟨7, by omega, fun _ => by rfl⟩
theorem extR (l : List UInt8) (a b : Nat) : (⟨l.toArray⟩ : ByteArray).extract a b = ⟨((l.take b).drop a).toArray⟩ := by
  apply ByteArray.ext
  apply Array.ext'
  rw [ByteArray.data_extract]
  simp [List.drop_take]
theorem flip_argI (R : List UInt8) (k : Nat) (hk : k < R.length) (v : UInt8) : ((⟨R.toArray⟩ : ByteArray).extract 0 k ++ ⟨#[v]⟩ ++ (⟨R.toArray⟩ : ByteArray).extract (k + 1) R.length) = ⟨(R.set k v).toArray⟩ := by
  rw [extR, extR]
  have e3 : (⟨#[v]⟩ : ByteArray) = ⟨[v].toArray⟩ := rfl
  rw [e3, ba_append, ba_append, List.set_eq_take_append_cons_drop, if_pos hk]
  simp
theorem xor_pow : ∀ (j P : Nat), (P ^^^ 2 ^ j) = P + 2 ^ j ∨ (P ^^^ 2 ^ j) + 2 ^ j = P
  | 0, P => by
    have h1 : (P ^^^ 1) / 2 = P / 2 := by rw [Nat.xor_div_two]; simp
    have h2 : (P ^^^ 1) % 2 = 1 ↔ ¬ (P % 2 = 1 ↔ 1 % 2 = 1) := Nat.xor_mod_two_eq_one
    simp only [Nat.pow_zero]
    omega
  | j + 1, P => by
    have h1 : (P ^^^ 2 ^ (j + 1)) / 2 = P / 2 ^^^ 2 ^ j := by rw [Nat.xor_div_two, Nat.pow_succ, Nat.mul_div_cancel _ (by omega)]
    have h2 : (P ^^^ 2 ^ (j + 1)) % 2 = 1 ↔ ¬ (P % 2 = 1 ↔ 2 ^ (j + 1) % 2 = 1) := Nat.xor_mod_two_eq_one
    have h3 := xor_pow j (P / 2)
    have h4 : 2 ^ (j + 1) = 2 * 2 ^ j := by rw [Nat.pow_succ, Nat.mul_comm]
    rw [h4] at h1 h2 ⊢
    omega
theorem pow_mod (j : Nat) (h : j < 32) : 1 ≤ 2 ^ j % 65535 := by
  have : ∀ j : Fin 32, 1 ≤ 2 ^ j.val % 65535 := by decide
  exact this ⟨j, h⟩
theorem pow_lt32 (j : Nat) (h : j < 32) : 2 ^ j < 4294967296 := Nat.pow_lt_pow_right (by omega) h
theorem xor_addr (p : Int) (j : Nat) (h0 : 0 ≤ p) (h1 : p < 4294967296) (hj : j < 32) : Adr (bits .xor .i64 p (2 ^ j)) ∧ (p - bits .xor .i64 p (2 ^ j)) % 65535 ≠ 0 := by
  obtain ⟨P, rfl⟩ := Int.eq_ofNat_of_zero_le h0
  have hl := pow_lt32 j hj
  have hm := pow_mod j hj
  have e : (2 : Int) ^ j = ((2 ^ j : Nat) : Int) := by push_cast; rfl
  have hx : (P ^^^ 2 ^ j) < 2 ^ 32 := Nat.xor_lt_two_pow (by omega) hl
  rw [e, bits_xor P (2 ^ j) (by omega) (by omega)]
  have hc := xor_pow j P
  generalize P ^^^ 2 ^ j = X at *
  generalize 2 ^ j = m at *
  unfold Adr
  omega
theorem xor_addr' (p : Int) (j : Nat) (h0 : 0 ≤ p) (h1 : p < 4294967296) (hj : j < 32) : Adr (bits .xor .i64 p (wrap64 (2 ^ j))) ∧ (p - bits .xor .i64 p (wrap64 (2 ^ j))) % 65535 ≠ 0 := by
  have hl := pow_lt32 j hj
  have e : (2 : Int) ^ j = ((2 ^ j : Nat) : Int) := by push_cast; rfl
  have hw : wrap64 ((2 : Int) ^ j) = 2 ^ j := by rw [e]; clear e; generalize 2 ^ j = m at *; unfold wrap64; omega
  rw [hw]
  exact xor_addr p j h0 h1 hj
theorem xor_byte (b : UInt8) (j : Nat) (h : j < 8) : UInt8.ofNat (bits .xor .u8 (b.toNat : Int) (2 ^ j)).toNat ≠ b := by
  have hl : 2 ^ j < 256 := Nat.pow_lt_pow_right (a := 2) (m := j) (n := 8) (by omega) h
  have hpos : 0 < 2 ^ j := Nat.pow_pos (by omega)
  have e0 : (2 : Int) ^ j = ((2 ^ j : Nat) : Int) := by push_cast; rfl
  have hc := xor_pow j b.toNat
  rw [e0]
  generalize 2 ^ j = m at *
  have hb := b.toNat_lt
  have hx : b.toNat ^^^ m < 2 ^ 8 := Nat.xor_lt_two_pow hb hl
  have e : bits .xor .u8 (b.toNat : Int) (m : Int) = ((b.toNat ^^^ m : Nat) : Int) := by
    unfold bits
    show IntKind.u8.wrap ((BitVec.ofInt 8 (b.toNat : Int) ^^^ BitVec.ofInt 8 (m : Int)).toNat : Int) = _
    have e1 : (BitVec.ofInt 8 (b.toNat : Int)).toNat = b.toNat := by rw [BitVec.toNat_ofInt]; omega
    have e2 : (BitVec.ofInt 8 (m : Int)).toNat = m := by rw [BitVec.toNat_ofInt]; omega
    rw [BitVec.toNat_xor, e1, e2, IntKind.wrap_u8]
    omega
  rw [e, Int.toNat_natCast]
  intro h2
  have h3 := congrArg UInt8.toNat h2
  rw [UInt8.toNat_ofNat', Nat.mod_eq_of_lt hx] at h3
  omega
set_option maxRecDepth 100000 in
set_option maxHeartbeats 4000000 in
theorem law25_any (fp tp sq ack : Int) (syn fin rst ha : Bool) (win mss : Int) (sacks : Bool) (A : Option Addr) (n c : Nat) (bl : List (Int × Int)) (s : ByteArray) (kind from_ to_ at_ bit : Int) (w : World) (hfp : In64 fp) (htp : In64 tp) (hsq : In64 sq) (hack : In64 ack) (hwin : In64 win) (hmss : In64 mss) (hkind : In64 kind) (hf : In64 from_) (ht : In64 to_) (hat : In64 at_) (hbit : 0 ≤ bit ∧ bit ≤ 255) (hA : ArgB w A n c bl) :
    Calls Try.prog 6 #[.agg #[.int .i64 fp, .int .i64 tp, .int .i64 sq, .int .i64 ack, .bool syn, .bool fin, .bool rst, .bool ha, .int .i64 win, .int .i64 mss, .bool sacks, .slice A n c, .string s], .int .i64 kind, .int .i64 from_, .int .i64 to_, .int .i64 at_, .int .u8 bit] w fun e w' => e = .returned (.bool true) ∧ Below w.heap.size w w' := by
  have HC := Lib.hid fun W (hA : ArgB W A n c bl) => cut_any fp tp sq ack syn fin rst ha win mss sacks A n c bl s W hfp htp hsq hack hwin hmss hA
  have HS := Lib.hid fun x A c W (hx : Seg.raw x) hb => segOf_raw x A c kind W hx hkind hb
  have hp := pick_lt from_ 4294967296 (by omega)
  have hq := pick_lt to_ 4294967296 (by omega)
  have HP := Lib.hid fun W => pick_any from_ 4294967296 W hf.1 hf.2 (by omega) (by omega)
  have HQ := Lib.hid fun W => pick_any to_ 4294967296 W ht.1 ht.2 (by omega) (by omega)
  have HK := Lib.hid fun (n : Int) (h1 : 1 ≤ n) (h2 : n ≤ 4294967296) W => pick_any at_ n W hat.1 hat.2 h1 h2
  generalize pick from_ 4294967296 = p at *
  generalize pick to_ 4294967296 = q at *
  obtain ⟨hp0, hp1⟩ := hp
  obtain ⟨hq0, hq1⟩ := hq
  obtain ⟨hb0, hb1⟩ := hbit
  clear hfp htp hsq hack hwin hmss hkind hf ht hat
  have Hx := Lib.hid (alloc_new w (.cells #[.int .i64 fp, .int .i64 tp, .int .i64 sq, .int .i64 ack, .bool syn, .bool fin, .bool rst, .bool ha, .int .i64 win, .int .i64 mss, .bool sacks, .slice A n c, .string s] 24))
  have HB := below_alloc (o := .cells #[.int .i64 fp, .int .i64 tp, .int .i64 sq, .int .i64 ack, .bool syn, .bool fin, .bool rst, .bool ha, .int .i64 win, .int .i64 mss, .bool sacks, .slice A n c, .string s] 24) (Below.refl w.heap.size w)
  have HA := Lib.hid (hA.alloc (.cells #[.int .i64 fp, .int .i64 tp, .int .i64 sq, .int .i64 ack, .bool syn, .bool fin, .bool rst, .bool ha, .int .i64 win, .int .i64 mss, .bool sacks, .slice A n c, .string s] 24)); clear hA
  go_enter Try.func6, Try.ntmps6
  go_wp2_with fail
  refine (examples_any _).mono ?_
  rintro e w1 ⟨rfl, hb⟩
  have Hx' := Lib.hid (bblock hb Hx.out); clear Hx; have Hx := Hx'; clear Hx'
  have HA' := Lib.hid (HA.out.below hb); clear HA; have HA := HA'; clear HA'
  have HB' := below_call HB hb; clear HB hb; have HB := HB'; clear HB'; have hz := HB.size
  go_wp2_with fail
  refine (HP.out _).mono ?_
  rintro e w' ⟨rfl, rfl⟩
  go_wp2_with fail
  refine (HQ.out _).mono ?_
  rintro e w' ⟨rfl, rfl⟩
  have qx0 := (cell_of_block (k := 0) Hx.out rfl).1; have zx0 := (cell_of_block (k := 0) Hx.out rfl).2; have qx1 := (cell_of_block (k := 1) Hx.out rfl).1; have zx1 := (cell_of_block (k := 1) Hx.out rfl).2; have qx2 := (cell_of_block (k := 2) Hx.out rfl).1; have zx2 := (cell_of_block (k := 2) Hx.out rfl).2; have qx3 := (cell_of_block (k := 3) Hx.out rfl).1; have zx3 := (cell_of_block (k := 3) Hx.out rfl).2; have qx4 := (cell_of_block (k := 4) Hx.out rfl).1; have zx4 := (cell_of_block (k := 4) Hx.out rfl).2; have qx5 := (cell_of_block (k := 5) Hx.out rfl).1; have zx5 := (cell_of_block (k := 5) Hx.out rfl).2; have qx6 := (cell_of_block (k := 6) Hx.out rfl).1; have zx6 := (cell_of_block (k := 6) Hx.out rfl).2; have qx7 := (cell_of_block (k := 7) Hx.out rfl).1; have zx7 := (cell_of_block (k := 7) Hx.out rfl).2; have qx8 := (cell_of_block (k := 8) Hx.out rfl).1; have zx8 := (cell_of_block (k := 8) Hx.out rfl).2; have qx9 := (cell_of_block (k := 9) Hx.out rfl).1; have zx9 := (cell_of_block (k := 9) Hx.out rfl).2; have qx10 := (cell_of_block (k := 10) Hx.out rfl).1; have zx10 := (cell_of_block (k := 10) Hx.out rfl).2; have qx11 := (cell_of_block (k := 11) Hx.out rfl).1; have zx11 := (cell_of_block (k := 11) Hx.out rfl).2; have qx12 := (cell_of_block (k := 12) Hx.out rfl).1; have zx12 := (cell_of_block (k := 12) Hx.out rfl).2; have lt_x := blk_lt Hx.out
  go_wp2_with fail
  clear qx0 zx0 qx1 zx1 qx2 zx2 qx3 zx3 qx4 zx4 qx5 zx5 qx6 zx6 qx7 zx7 qx8 zx8 qx9 zx9 qx10 zx10 qx11 zx11 qx12 zx12 lt_x
  refine (HC.out _ HA.out).mono ?_
  rintro e w2 ⟨x, A2, c2, hx, rfl, hbk, hb⟩
  have HX := Lib.hid hx; clear hx
  have HK2 := Lib.hid hbk; clear hbk
  have HB' := below_call HB hb; clear HB hb; have HB := HB'; clear HB'; have hz := HB.size
  go_wp2_with fail
  refine (HS.out x A2 c2 _ HX.out HK2.out).mono ?_
  rintro e w3 ⟨y, A3, c3, hy, rfl, hbk, hb⟩
  have hE : (y.enc p q).length ≤ 1100 := enc_le p q y hy
  have hE0 : 20 ≤ (y.enc p q).length := by rw [enc_length]; omega
  have HEn := Lib.hid fun W hb => enc_ok p q y A3 c3 W ⟨hp0, by omega⟩ ⟨hq0, by omega⟩ hy hb
  have HK3 := Lib.hid hbk; clear hbk
  clear HX HK2
  generalize hyE : y.enc p q = E at *
  have HB' := below_call HB hb; clear HB hb; have HB := HB'; clear HB'; have hz := HB.size
  go_wp2_with fail
  refine (HEn.out _ HK3.out).mono ?_
  rintro e w4 ⟨rfl, hb⟩
  have HB' := below_call HB hb; clear HB hb; have HB := HB'; clear HB'; have hz := HB.size
  have hkb := pick_lt at_ (E.length : Int) (by omega)
  obtain ⟨k, hk⟩ := Int.eq_ofNat_of_zero_le hkb.1
  have HKK := Lib.hid fun W => HK.out (E.length : Int) (by omega) (by omega) W
  clear HK
  rw [hk] at hkb HKK; clear hk
  go_wp2_with fail
  refine (HKK.out _).mono ?_
  rintro e w' ⟨rfl, rfl⟩
  go_upto_region 10 with fail
  have hkn : k < E.length := by omega
  have b1 : (0 : Int) ≤ (k : Int) := by omega
  have b2 : (k : Int) < (E.length : Int) := by omega
  have b3 : (k : Int) ≤ (E.length : Int) := by omega
  have b4 : (k : Int) + 1 ≤ (E.length : Int) := by omega
  have b5 : (0 : Int) ≤ (k : Int) + 1 := by omega
  have b6 : IntKind.i64.wrap ((k : Int) + 1) = (k : Int) + 1 := IntWalk.i64_in _ (by omega)
  have b7 : ((k : Int) + 1).toNat = k + 1 := by omega
  have hcv : ∀ (W : World) (b : Nat) (m : Int), W.cell? ⟨b, 0, none⟩ = some (.int .u8 m) → (convert 38 9 (.slice (some ⟨b, 0, none⟩) 1 1)).run Try.prog W = .ok (.string ⟨#[UInt8.ofNat m.toNat]⟩) W := conv_one
  obtain ⟨j8, hj8, hs8⟩ := shl8 bit hb0
  have HR := Below.refl w4.heap.size w4
  have c1 : ¬ 9223372036854775807 < min k E.length + 1 := by omega
  have c2 : ¬ 9223372036854775807 < min k E.length + 1 + (E.length - (k + 1)) := by omega
  refine wp_region_held_drew (S := fun w' => Below w4.heap.size w4 w') (by kernel_rfl) HR.drew ?_
  intro hS
  refine wpAnyH_take (i := 0) (v := ?va0) rfl (by kernel_rfl) (by kernel_rfl) (by kernel_rfl) (fun _ _ _ h => h) (Or.inl ⟨by rfl, ?hya0⟩) (by exact hS) ?rea0
  case hya0 => (intro ww hSw; (try dsimp only at hSw); go_simp; first | done | with_reducible rfl)
  try simp only [Act.put]
  refine wpAnyH_take (i := 1) (v := ?va1) rfl (by kernel_rfl) (by kernel_rfl) (by kernel_rfl) (fun _ _ _ h => h) (Or.inl ⟨by rfl, ?hya1⟩) (by exact hS) ?rea1
  case hya1 => (intro ww hSw; (try dsimp only at hSw); go_simp; first | done | with_reducible rfl)
  try simp only [Act.put]
  refine wpAnyH_take (i := 2) (v := ?va2) rfl (by kernel_rfl) (by kernel_rfl) (by kernel_rfl) (fun _ _ _ h => h) (Or.inl ⟨by rfl, ?hya2⟩) (by exact hS) ?rea2
  case hya2 => (intro ww hSw; (try dsimp only at hSw); go_simp; first | done | with_reducible rfl)
  try simp only [Act.put]
  refine wpAnyH_take (i := 3) (v := ?va3) rfl (by kernel_rfl) (by kernel_rfl) (by kernel_rfl) (fun _ _ _ h => h) (Or.inl ⟨by rfl, ?hya3⟩) (by exact hS) ?rea3
  case hya3 => (intro ww hSw; (try dsimp only at hSw); go_simp; first | done | with_reducible rfl)
  try simp only [Act.put]
  refine wpAnyH_take (i := 4) (v := ?va4) rfl (by kernel_rfl) (by kernel_rfl) (by kernel_rfl) (fun _ _ _ h => h) (Or.inl ⟨by rfl, ?hya4⟩) (by exact hS) ?rea4
  case hya4 => (intro ww hSw; (try dsimp only at hSw); go_simp; first | done | with_reducible rfl)
  try simp only [Act.put]
  refine wpAnyH_take (i := 5) (v := ?va5) rfl (by kernel_rfl) (by kernel_rfl) (by kernel_rfl) (fun _ _ _ h => h) (Or.inl ⟨by rfl, ?hya5⟩) (by exact hS) ?rea5
  case hya5 => (intro ww hSw; (try dsimp only at hSw); go_simp; first | done | with_reducible rfl)
  try simp only [Act.put]
  refine wpAnyH_take (i := 6) (v := ?va6) rfl (by kernel_rfl) (by kernel_rfl) (by kernel_rfl) (fun _ _ _ h => h) (Or.inl ⟨by rfl, ?hya6⟩) (by exact hS) ?rea6
  case hya6 => (intro ww hSw; (try dsimp only at hSw); go_simp; first | done | with_reducible rfl)
  try simp only [Act.put]
  refine wpAnyH_take (i := 7) (v := ?va7) rfl (by kernel_rfl) (by kernel_rfl) (by kernel_rfl) (fun _ _ _ h => h) (Or.inl ⟨by rfl, ?hya7⟩) (by exact hS) ?rea7
  case hya7 => (intro ww hSw; (try dsimp only at hSw); go_simp; first | done | with_reducible rfl)
  try simp only [Act.put]
  refine wpAnyH_take (i := 8) (v := ?va8) rfl (by kernel_rfl) (by kernel_rfl) (by kernel_rfl) (fun _ _ _ h => h) (Or.inl ⟨by rfl, ?hya8⟩) (by exact hS) ?rea8
  case hya8 => (intro ww hSw; (try dsimp only at hSw); go_simp; first | done | with_reducible rfl)
  try simp only [Act.put]
  refine wpAnyH_take (i := 9) (v := ?va9) rfl (by kernel_rfl) (by kernel_rfl) (by kernel_rfl) (fun _ _ _ h => h) (Or.inl ⟨by rfl, ?hya9⟩) (by exact hS) ?rea9
  case hya9 => (intro ww hSw; (try dsimp only at hSw); go_simp; first | done | with_reducible rfl)
  try simp only [Act.put]
  refine wpAnyH_take (i := 13) (v := ?va13) rfl (by kernel_rfl) (by kernel_rfl) (by kernel_rfl) (fun _ _ _ h => h) (Or.inl ⟨by rfl, ?hya13⟩) (by exact hS) ?rea13
  case hya13 => (intro ww hSw; (try dsimp only at hSw); go_simp; first | done | with_reducible rfl)
  try simp only [Act.put]
  refine wpAnyH_take (i := 14) (v := ?va14) rfl (by kernel_rfl) (by kernel_rfl) (by kernel_rfl) (fun _ _ _ h => h) (Or.inl ⟨by rfl, ?hya14⟩) (by exact hS) ?rea14
  case hya14 => (intro ww hSw; (try dsimp only at hSw); go_simp; first | done | with_reducible rfl)
  try simp only [Act.put]
  refine wpAnyH_take (i := 15) (v := ?va15) rfl (by kernel_rfl) (by kernel_rfl) (by kernel_rfl) (fun _ _ _ h => h) (Or.inl ⟨by rfl, ?hya15⟩) (by exact hS) ?rea15
  case hya15 => (intro ww hSw; (try dsimp only at hSw); go_simp; first | done | with_reducible rfl)
  try simp only [Act.put]
  refine wpAnyH_take (i := 16) (v := ?va16) rfl (by kernel_rfl) (by kernel_rfl) (by kernel_rfl) (fun _ _ _ h => h) (Or.inl ⟨by rfl, ?hya16⟩) (by exact hS) ?rea16
  case hya16 => (intro ww hSw; (try dsimp only at hSw); go_simp; first | done | with_reducible rfl)
  try simp only [Act.put]
  refine wpAnyH_ready (rs := [10]) (by kernel_rfl) (by simp) ?_
  refine AllReadyH.cons rfl (fun K hK => ?_) AllReadyH.nil
  go_simp
  refine hK.out _ _ (below_alloc HR).drew (fun h1 => ?_)
  refine wpAnyH_sharpen (S1 := fun w' => Below w4.heap.size w4 w' ∧ w'.cell? ⟨w4.heap.size, 0, none⟩ = some (.int .u8 (bits .xor .u8 ((⟨E.toArray⟩ : ByteArray)[k].toNat : Int) (2 ^ j8)))) (fun _ h => h.1) _ _ _ _ ?_
  have hS1 : Below w4.heap.size w4 (w4.alloc (.cells #[.int .u8 (bits .xor .u8 ((⟨E.toArray⟩ : ByteArray)[k].toNat : Int) (2 ^ j8))] 5)).drew ∧ (w4.alloc (.cells #[.int .u8 (bits .xor .u8 ((⟨E.toArray⟩ : ByteArray)[k].toNat : Int) (2 ^ j8))] 5)).drew.cell? ⟨w4.heap.size, 0, none⟩ = some (.int .u8 (bits .xor .u8 ((⟨E.toArray⟩ : ByteArray)[k].toNat : Int) (2 ^ j8))) := ⟨(below_alloc HR).drew, (cell_of_box (alloc_new w4 (.cells #[.int .u8 (bits .xor .u8 ((⟨E.toArray⟩ : ByteArray)[k].toNat : Int) (2 ^ j8))] 5))).1⟩
  refine wpAnyH_take (i := 11) (v := ?vb11) rfl (by kernel_rfl) (by kernel_rfl) (by kernel_rfl) (fun _ _ _ h => h) (Or.inl ⟨by rfl, ?hyb11⟩) (by exact hS1) ?reb11
  case hyb11 => (intro ww hSw; (try dsimp only at hSw); go_simp; first | done | with_reducible rfl)
  try simp only [Act.put]
  refine wpAnyH_take (i := 12) (v := ?vb12) rfl (by kernel_rfl) (by kernel_rfl) (by kernel_rfl) (fun _ _ _ h => h) (Or.inl ⟨by rfl, ?hyb12⟩) (by exact hS1) ?reb12
  case hyb12 => (intro ww hSw; (try dsimp only at hSw); go_simp; first | done | with_reducible rfl)
  try simp only [Act.put]
  refine wpAnyH_take (i := 17) (v := ?vb17) rfl (by kernel_rfl) (by kernel_rfl) (by kernel_rfl) (fun _ _ _ h => h) (Or.inl ⟨by rfl, ?hyb17⟩) (by exact hS1) ?reb17
  case hyb17 => (intro ww hSw; (try dsimp only at hSw); go_simp; first | done | with_reducible rfl)
  try simp only [Act.put]
  refine wpAnyH_take (i := 18) (v := ?vb18) rfl (by kernel_rfl) (by kernel_rfl) (by kernel_rfl) (fun _ _ _ h => h) (Or.inl ⟨by rfl, ?hyb18⟩) (by exact hS1) ?reb18
  case hyb18 => (intro ww hSw; (try dsimp only at hSw); go_simp; first | done | with_reducible rfl)
  try simp only [Act.put]
  refine wpAnyH_done (by kernel_rfl) ?_ _
  clear c1 c2 hcv hs8 b1 b2 b3 b4 b5 b6 b7 HR
  have HD1 : Hid (∀ W, Calls Try.prog 22 #[.int .i64 p, .int .i64 q, .string ((⟨E.toArray⟩ : ByteArray).extract 0 k ++ ⟨#[UInt8.ofNat (bits .xor .u8 ((⟨E.toArray⟩ : ByteArray)[k].toNat : Int) (2 ^ j8)).toNat]⟩ ++ (⟨E.toArray⟩ : ByteArray).extract (k + 1) E.length)] W fun e w' => e = .returned (.tuple #[.agg #[.int .i64 0, .int .i64 0, .int .i64 0, .int .i64 0, .bool false, .bool false, .bool false, .bool false, .int .i64 0, .int .i64 0, .bool false, .slice none 0 0, .string ⟨#[]⟩], .int .i64 110]) ∧ Below W.heap.size W w') := Lib.hid fun W => by
    rw [flip_argI E k hkn]
    exact Dec_no p q _ W (by rw [sz, List.length_set]; omega) ⟨hp0, by omega⟩ ⟨hq0, by omega⟩ (flip_no p q E (by rw [← hyE]; exact enc_decOk p q y hy) k hkn _ (xor_byte _ j8 hj8))
  have hO := xor_addr' p (bit % 32).toNat hp0 hp1 (by omega)
  have HD2 : Hid (∀ W, Calls Try.prog 22 #[.int .i64 (bits .xor .i64 p (wrap64 (2 ^ (bit % 32).toNat))), .int .i64 q, .string ⟨E.toArray⟩] W fun e w' => e = .returned (.tuple #[.agg #[.int .i64 0, .int .i64 0, .int .i64 0, .int .i64 0, .bool false, .bool false, .bool false, .bool false, .int .i64 0, .int .i64 0, .bool false, .slice none 0 0, .string ⟨#[]⟩], .int .i64 110]) ∧ Below W.heap.size W w') := Lib.hid fun W =>
    Dec_no _ q _ W (by rw [sz]; omega) hO.1 ⟨hq0, by omega⟩ (addr_bad p _ q _ (by rw [← hyE]; exact enc_decOk p q y hy) ⟨hp0, by omega⟩ hO.1 hO.2)
  clear hO hyE
  have HB' := (below_alloc (o := .cells #[.int .u8 (bits .xor .u8 ((⟨E.toArray⟩ : ByteArray)[k].toNat : Int) (2 ^ j8))] 5) HB).drew; clear HB; have HB := HB'; clear HB'
  go_wp2_with fail
  refine (HD1.out _).mono ?_
  rintro e w5 ⟨rfl, hb⟩
  have HB' := below_alloc (o := .cells #[.int .i64 0, .int .i64 0, .int .i64 0, .int .i64 0, .bool false, .bool false, .bool false, .bool false, .int .i64 0, .int .i64 0, .bool false, .slice none 0 0, .string ⟨#[]⟩] 24) (below_call HB hb); clear HB hb; have HB := HB'; clear HB'
  generalize bits .xor .i64 p (wrap64 (2 ^ (bit % 32).toNat)) = O at *
  go_wp2_with fail
  refine (HD2.out _).mono ?_
  rintro e w6 ⟨rfl, hb⟩
  have HB' := below_alloc (o := .cells #[.int .i64 0, .int .i64 0, .int .i64 0, .int .i64 0, .bool false, .bool false, .bool false, .bool false, .int .i64 0, .int .i64 0, .bool false, .slice none 0 0, .string ⟨#[]⟩] 24) (below_call HB hb); clear HB hb; have HB := HB'; clear HB'
  go_wp2_with fail
  go_ret
  exact ⟨rfl, HB⟩
end Go.Proofs.Ytkinlmanimdlcaa.Sg
