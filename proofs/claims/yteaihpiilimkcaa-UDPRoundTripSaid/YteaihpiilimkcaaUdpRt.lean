/-
  The walk of the law UDPRoundTrip.
-/
import Derived.Test.YteaihpiilimkcaaUdpLaws1
import Derived.Deep.DeepCutAuto
namespace Go.Proofs.Yteaihpiilimkcaa.Udp
open Go.RowKit Go.Proofs.Yteaihpiilimkcaa.Wire Go.Proofs.Yteaihpiilimkcaa.Gen

theorem conv_one (W : World) (b : Nat) (m : Int) (h : W.cell? ⟨b, 0, none⟩ = some (.int .u8 m)) : (convert 39 9 (.slice (some ⟨b, 0, none⟩) 1 1)).run Try.prog W = .ok (.string ⟨#[UInt8.ofNat m.toNat]⟩) W := by
  rw [run_convert_bytes_arg W 39 5 Try.underlying39 Try.underlying5 b 0 1 1 [m] rfl ?_ 9 Try.underlying9]
  · rfl
  · intro i hi
    obtain rfl : i = 0 := by omega
    exact h

theorem xor_ne (b : UInt8) (d : Nat) (h : d ≤ 254) : UInt8.ofNat (bits .xor .u8 (b.toNat : Int) (1 + (d : Int))).toNat ≠ b := by
  have e : bits .xor .u8 (b.toNat : Int) (1 + (d : Int)) = ((b.toNat ^^^ (1 + d) : Nat) : Int) := by
    unfold bits
    show IntKind.u8.wrap ((BitVec.ofInt 8 (b.toNat : Int) ^^^ BitVec.ofInt 8 (1 + (d : Int))).toNat : Int) = _
    have hb := b.toNat_lt
    have e1 : (BitVec.ofInt 8 (b.toNat : Int)).toNat = b.toNat := by rw [BitVec.toNat_ofInt]; omega
    have e2 : (BitVec.ofInt 8 (1 + (d : Int))).toNat = 1 + d := by rw [BitVec.toNat_ofInt]; omega
    have hx : b.toNat ^^^ (1 + d) < 2 ^ 8 := Nat.xor_lt_two_pow hb (by omega)
    rw [BitVec.toNat_xor, e1, e2, IntKind.wrap_u8]
    omega
  rw [e, Int.toNat_natCast]
  intro h2
  have h3 := congrArg UInt8.toNat h2
  have hx : b.toNat ^^^ (1 + d) < 256 := Nat.xor_lt_two_pow (n := 8) b.toNat_lt (by omega)
  rw [UInt8.toNat_ofNat', Nat.mod_eq_of_lt hx] at h3
  have h4 : b.toNat ^^^ (b.toNat ^^^ (1 + d)) = b.toNat ^^^ b.toNat := by rw [h3]
  rw [← Nat.xor_assoc, Nat.xor_self, Nat.zero_xor] at h4
  omega

set_option maxRecDepth 100000 in
set_option maxHeartbeats 4000000 in
theorem round_walk (x0 x1 x2 x3 x4 at_ by_ fx tx : Int) (xs : ByteArray) (lx R : List UInt8) (w : World) (hx0 : -9223372036854775808 ≤ x0 ∧ x0 ≤ 9223372036854775807) (hx1 : -9223372036854775808 ≤ x1 ∧ x1 ≤ 9223372036854775807) (hat : -9223372036854775808 ≤ at_ ∧ at_ ≤ 9223372036854775807) (hby : -9223372036854775808 ≤ by_ ∧ by_ ≤ 9223372036854775807)
    (hl : lx.length ≤ 200) (hR : R.length = 8 + lx.length)
    (hx : ∀ w, Calls Try.prog 8 #[.agg #[.int .i64 x0, .int .i64 x1, .int .i64 x2, .int .i64 x3, .int .i64 x4, .string xs]] w fun e w' => e = .returned (.agg #[.int .i64 fx, .int .i64 tx, .string ⟨lx.toArray⟩]) ∧ Below w.heap.size w w')
    (he : ∀ w, Calls Try.prog 12 #[.int .i64 (addrOf x0), .int .i64 (addrOf x1), .agg #[.int .i64 fx, .int .i64 tx, .string ⟨lx.toArray⟩]] w fun e w' => e = .returned (.tuple #[.string ⟨R.toArray⟩, .int .i64 0]) ∧ Below w.heap.size w w')
    (hf : ∀ (v : UInt8) (k : Nat) (hk : k < R.length), v ≠ R[k] → ∀ w, Calls Try.prog 16 #[.int .i64 (addrOf x0), .int .i64 (addrOf x1), .string ((⟨R.toArray⟩ : ByteArray).extract 0 k ++ ⟨#[v]⟩ ++ (⟨R.toArray⟩ : ByteArray).extract (k + 1) R.length)] w fun e w' => e = .returned (.tuple #[.agg #[.int .i64 0, .int .i64 0, .string ⟨#[]⟩], .int .i64 100]) ∧ Below w.heap.size w w')
    (ho : ∀ (d j : Nat), d < 255 → j < 4 → ∀ w, Calls Try.prog 16 #[.int .i64 (bits .xor .i64 (addrOf x0) (wrap64 ((1 + (d : Int)) * 2 ^ (8 * j)))), .int .i64 (addrOf x1), .string ⟨R.toArray⟩] w fun e w' => e = .returned (.tuple #[.agg #[.int .i64 0, .int .i64 0, .string ⟨#[]⟩], .int .i64 100]) ∧ Below w.heap.size w w')
    (hi : ∀ w, Calls Try.prog 16 #[.int .i64 (addrOf x0), .int .i64 (addrOf x1), .string ((⟨R.toArray⟩ : ByteArray).extract 0 (R.length - 1))] w fun e w' => e = .returned (.tuple #[.agg #[.int .i64 0, .int .i64 0, .string ⟨#[]⟩], .int .i64 100]) ∧ Below w.heap.size w w')
    (hp : ∀ w, Calls Try.prog 16 #[.int .i64 (addrOf x0), .int .i64 (addrOf x1), .string (⟨R.toArray⟩ ++ ⟨#[120]⟩)] w fun e w' => e = .returned (.tuple #[.agg #[.int .i64 0, .int .i64 0, .string ⟨#[]⟩], .int .i64 100]) ∧ Below w.heap.size w w')
    (hd : ∀ w, Calls Try.prog 16 #[.int .i64 (addrOf x0), .int .i64 (addrOf x1), .string ⟨R.toArray⟩] w fun e w' => e = .returned (.tuple #[.agg #[.int .i64 fx, .int .i64 tx, .string ⟨lx.toArray⟩], .int .i64 0]) ∧ Below w.heap.size w w') :
    Calls Try.prog 5 #[.agg #[.int .i64 x0, .int .i64 x1, .int .i64 x2, .int .i64 x3, .int .i64 x4, .string xs], .int .i64 at_, .int .i64 by_] w fun e w' => e = .returned (.bool true) ∧ Below w.heap.size w w' := by
  have HX := Lib.hid hx
  have HE := Lib.hid he
  have HD := Lib.hid hd
  have HF := Lib.hid hf
  have HO := Lib.hid ho
  have HI := Lib.hid hi
  have HP := Lib.hid hp
  have HR := Lib.hid hR
  have hR1 : 8 ≤ R.length := by omega
  have hR2 : R.length ≤ 208 := by omega
  have hRl : ((R.length : Int) != 8 + (lx.length : Int)) = false := by simp; omega
  have hcv : ∀ (W : World) (b : Nat) (m : Int), W.cell? ⟨b, 0, none⟩ = some (.int .u8 m) → (convert 39 9 (.slice (some ⟨b, 0, none⟩) 1 1)).run Try.prog W = .ok (.string ⟨#[UInt8.ofNat m.toNat]⟩) W := conv_one
  clear hx he hd hR hf ho hi hp
  have HB := Below.refl w.heap.size w
  go_enter Try.func5, Try.ntmps5
  have Hx := Lib.hid (alloc_new' w (.cells #[.int .i64 x0, .int .i64 x1, .int .i64 x2, .int .i64 x3, .int .i64 x4, .string xs] 23) (w.heap.size) (by simp))
  have HB' := below_alloc (o := .cells #[.int .i64 x0, .int .i64 x1, .int .i64 x2, .int .i64 x3, .int .i64 x4, .string xs] 23) HB; clear HB; have HB := HB'; clear HB'
  go_wp2_with fail
  refine (sane_any _).mono ?_
  rintro e w1 ⟨rfl, hb⟩
  have Hx' := Lib.hid (bblock hb Hx.out); clear Hx; have Hx := Hx'; clear Hx'
  have HB' := below_call HB hb; clear HB hb; have HB := HB'; clear HB'; have hz1 := HB.size
  have Sx := cells6 Hx.out
  obtain ⟨⟨qx0, qx1, qx2, qx3, qx4, qx5⟩, zx0, zx1, zx2, zx3, zx4, zx5⟩ := Sx
  go_wp2_with fail
  refine (addressFrom_any _ _ (by omega) (by omega)).mono ?_
  rintro e w' ⟨rfl, rfl⟩
  go_wp2_with fail
  refine (addressFrom_any _ _ (by omega) (by omega)).mono ?_
  rintro e w' ⟨rfl, rfl⟩
  generalize addrOf x0 = A at *
  generalize addrOf x1 = B at *
  go_wp2_with fail
  refine (HX.out _).mono ?_
  rintro e w2 ⟨rfl, hb⟩
  have Hx' := Lib.hid (bblock hb Hx.out); clear Hx; have Hx := Hx'; clear Hx'
  have HB' := below_call HB hb; clear HB hb; have HB := HB'; clear HB'; have hz2 := HB.size
  clear qx0 zx0 qx1 zx1 qx2 zx2 qx3 zx3 qx4 zx4 qx5 zx5
  have Hu := Lib.hid (alloc_new' w2 (.cells #[.int .i64 fx, .int .i64 tx, .string ⟨lx.toArray⟩] 26) (w2.heap.size) (by simp))
  have Hx' := Lib.hid (block_alloc Hx.out (.cells #[.int .i64 fx, .int .i64 tx, .string ⟨lx.toArray⟩] 26)); clear Hx; have Hx := Hx'; clear Hx'
  have HB' := below_alloc (o := .cells #[.int .i64 fx, .int .i64 tx, .string ⟨lx.toArray⟩] 26) HB; clear HB; have HB := HB'; clear HB'
  have Su := cells3 Hu.out
  obtain ⟨⟨qu0, qu1, qu2⟩, zu0, zu1, zu2⟩ := Su
  go_wp2_with fail
  refine (HE.out _).mono ?_
  rintro e w3 ⟨rfl, hb⟩
  clear qu0 zu0 qu1 zu1 qu2 zu2
  have Hx' := Lib.hid (bblock hb Hx.out); clear Hx; have Hx := Hx'; clear Hx'
  have Hu' := Lib.hid (bblock hb Hu.out); clear Hu; have Hu := Hu'; clear Hu'
  have HB' := below_call HB hb; clear HB hb; have HB := HB'; clear HB'; have hz3 := HB.size
  have Su := cells3 Hu.out
  obtain ⟨⟨qu0, qu1, qu2⟩, zu0, zu1, zu2⟩ := Su
  go_wp2_with fail
  refine (HD.out _).mono ?_
  rintro e w4 ⟨rfl, hb⟩
  clear qu0 zu0 qu1 zu1 qu2 zu2
  have Hx' := Lib.hid (bblock hb Hx.out); clear Hx; have Hx := Hx'; clear Hx'
  have Hu' := Lib.hid (bblock hb Hu.out); clear Hu; have Hu := Hu'; clear Hu'
  have HB' := below_call HB hb; clear HB hb; have HB := HB'; clear HB'; have hz4 := HB.size
  have Hv := Lib.hid (alloc_new' w4 (.cells #[.int .i64 fx, .int .i64 tx, .string ⟨lx.toArray⟩] 26) (w4.heap.size) (by simp))
  have Hx' := Lib.hid (block_alloc Hx.out (.cells #[.int .i64 fx, .int .i64 tx, .string ⟨lx.toArray⟩] 26)); clear Hx; have Hx := Hx'; clear Hx'
  have Hu' := Lib.hid (block_alloc Hu.out (.cells #[.int .i64 fx, .int .i64 tx, .string ⟨lx.toArray⟩] 26)); clear Hu; have Hu := Hu'; clear Hu'
  have HB' := below_alloc (o := .cells #[.int .i64 fx, .int .i64 tx, .string ⟨lx.toArray⟩] 26) HB; clear HB; have HB := HB'; clear HB'
  have Su := cells3 Hu.out
  obtain ⟨⟨qu0, qu1, qu2⟩, zu0, zu1, zu2⟩ := Su
  have Sv := cells3 Hv.out
  obtain ⟨⟨qv0, qv1, qv2⟩, zv0, zv1, zv2⟩ := Sv
  go_wp2_with fail
  have hkb := pick_lt at_ (R.length : Int) (by omega)
  have hdb := pick_lt by_ 255 (by omega)
  have hjb := pick_lt at_ 4 (by omega)
  have HK := Lib.hid fun w => pick_any at_ (R.length : Int) w hat.1 hat.2 (by omega) (by omega)
  have HJ := Lib.hid fun w => pick_any at_ 4 w hat.1 hat.2 (by omega) (by omega)
  have HDD := Lib.hid fun w => pick_any by_ 255 w hby.1 hby.2 (by omega) (by omega)
  obtain ⟨k, hk⟩ := Int.eq_ofNat_of_zero_le hkb.1
  obtain ⟨d, hd⟩ := Int.eq_ofNat_of_zero_le hdb.1
  obtain ⟨j, hj⟩ := Int.eq_ofNat_of_zero_le hjb.1
  rw [hk] at hkb HK; rw [hd] at hdb HDD; rw [hj] at hjb HJ
  clear hk hd hj
  refine (HK.out _).mono ?_
  rintro e w' ⟨rfl, rfl⟩
  clear qu0 zu0 qu1 zu1 qu2 zu2 qv0 zv0 qv1 zv1 qv2 zv2
  go_wp2_with fail
  refine (HDD.out _).mono ?_
  rintro e w' ⟨rfl, rfl⟩
  go_upto_region 11 with fail
  have hkn : k < R.length := by omega
  have b1 : (0 : Int) ≤ (k : Int) := by omega
  have b2 : (k : Int) < (R.length : Int) := by omega
  have b3 : (k : Int) ≤ (R.length : Int) := by omega
  have b4 : (k : Int) + 1 ≤ (R.length : Int) := by omega
  have b5 : (0 : Int) ≤ (k : Int) + 1 := by omega
  have b6 : IntKind.i64.wrap ((k : Int) + 1) = (k : Int) + 1 := IntWalk.i64_in _ (by omega)
  have b7 : ((k : Int) + 1).toNat = k + 1 := by omega
  go_cut [18] (fun s18 wx => s18 = .int .i64 100 ∧ Below w.heap.size w wx)
  case first =>
    go_region_with (go_at_call 16; refine (HF.out _ k hkn (xor_ne _ d (by omega)) _).mono ?_; rintro e w10 ⟨rfl, hb10⟩; obtain ⟨hc10, hf10⟩ := bcells hb10)
    all_goals
      have HB2 : Below w.heap.size w w10 := below_call (by repeat (first | exact HB | apply Below.drew | apply below_alloc)) hb10
      clear hc10 hf10
      go_wp2_with fail
      go_meet
      have hz10 := HB2.size
      exact ⟨rfl, by repeat (first | exact HB2 | apply Below.drew | apply below_alloc | refine Below.setCell ?_ (by first | omega | (simp; omega)) _)⟩
  case rest =>
    obtain ⟨rfl, HB⟩ := hcut
    go_wp2_with fail
    refine (HJ.out _).mono ?_
    rintro e w' ⟨rfl, rfl⟩
    go_wp2_with fail
    refine (HO.out d j (by omega) (by omega) _).mono ?_
    rintro e wd ⟨rfl, hb⟩
    have HB' := below_alloc (o := .cells #[.int .i64 0, .int .i64 0, .string ⟨#[]⟩] 26) (below_call HB hb); clear HB hb; have HB := HB'; clear HB'
    generalize bits .xor .i64 A (wrap64 ((1 + (d : Int)) * 2 ^ (8 * j))) = O at *
    go_wp2_with fail
    refine (HI.out _).mono ?_
    rintro e we ⟨rfl, hb⟩
    have HB' := below_alloc (o := .cells #[.int .i64 0, .int .i64 0, .string ⟨#[]⟩] 26) (below_call HB hb); clear HB hb; have HB := HB'; clear HB'
    go_wp2_with fail
    refine (HP.out _).mono ?_
    rintro e wf ⟨rfl, hb⟩
    have HB' := below_alloc (o := .cells #[.int .i64 0, .int .i64 0, .string ⟨#[]⟩] 26) (below_call HB hb); clear HB hb; have HB := HB'; clear HB'
    go_wp2_with fail
    all_goals
      go_ret
      exact ⟨rfl, HB⟩

end Go.Proofs.Yteaihpiilimkcaa.Udp
