/-
  The walk of the law DNSRoundTrip.
-/
import Derived.Test.YthdggmigjddneaaDnLaw0
namespace Go.Proofs.Ythdggmigjddneaa.Dn
open Go.RowKit Go.Proofs.Ythdggmigjddneaa.Wire Go.Proofs.Ythdggmigjddneaa.Rw

set_option maxRecDepth 100000 in
set_option maxHeartbeats 8000000 in
theorem law33_any (x y : DR) (Ax Ay : Option Addr) (nx cx ny cy : Nat) (at_ by_ : Int) (w : World) (hx : x.ok) (hAx : RArg w Ax nx x.recs) (hy : y.ok) (hAy : RArg w Ay ny y.recs) (hat : In64 at_) :
    Calls Try.prog 5 #[.agg #[.int .i64 x.id, .bool x.ans, .int .i64 x.code, .int .i64 x.nm, .bool x.alias, .slice Ax nx cx], .agg #[.int .i64 y.id, .bool y.ans, .int .i64 y.code, .int .i64 y.nm, .bool y.alias, .slice Ay ny cy], .int .i64 at_, .int .u8 by_] w fun e w' => e = .returned (.bool true) ∧ Below w.heap.size w w' := by
  have HAx := Lib.hid hAx; have HAy := Lib.hid hAy
  have HX := Lib.hid fun W h => dnsL x Ax nx cx W hx h
  have HY := Lib.hid fun W h => dnsL y Ay ny cy W hy h
  have ok1 := dnsOf_ok x; have ok2 := dnsOf_ok y
  generalize dnsOf x = d1 at *
  generalize dnsOf y = d2 at *
  have HE1 := Lib.hid (encL d1 ok1); have HE2 := Lib.hid (encL d2 ok2); have HD1 := Lib.hid (decL d1 ok1)
  have HS := Lib.hid (sameL d1 d1 (ok_recs ok1) (ok_recs ok1)); rw [decide_eq_true (rfl : d1 = d1)] at HS
  have HR := Lib.hid (rsameL d1 d2 (ok_recs ok1) (ok_recs ok2))
  have hln := enc_len d1 ok1
  have hq : ((⟨(enc d1).toArray⟩ : ByteArray).toList == (⟨(enc d2).toArray⟩ : ByteArray).toList) = decide (d1 = d2) := by
    rw [Bool.eq_iff_iff, beq_iff_eq, decide_eq_true_eq, ba_inj]
    exact ⟨enc_inj d1 d2 ok1 ok2, fun h => by rw [h]⟩
  have hq2 : (enc d1 == enc d2) = decide (d1 = d2) := by
    rw [Bool.eq_iff_iff, beq_iff_eq, decide_eq_true_eq]
    exact ⟨enc_inj d1 d2 ok1 ok2, fun h => by rw [h]⟩
  have hpk := pick_lt at_ ((enc d1).length : Int) (by omega)
  have HK := Lib.hid fun W => pick_any at_ ((enc d1).length : Int) W hat (by omega) (by omega)
  obtain ⟨k, hk⟩ := Int.eq_ofNat_of_zero_le hpk.1
  rw [hk] at HK hpk
  have hkl : k < (enc d1).length := by omega
  have HC := Lib.hid (decN ((⟨(enc d1).toArray⟩ : ByteArray).extract 0 k) (by rw [ByteArray.size_extract]; show min k (enc d1).length - 0 ≤ _; omega) (by
    have e : ((⟨(enc d1).toArray⟩ : ByteArray).extract 0 k).data.toList = (enc d1).take k := by simp
    rw [e]; exact decD_cut d1 ok1 k hkl))
  have HM := Lib.hid (decN (⟨(enc d1).toArray⟩ ++ ⟨#[UInt8.ofNat by_.toNat]⟩) (by rw [ByteArray.size_append]; show (enc d1).length + 1 ≤ _; omega) (by
    have e : ((⟨(enc d1).toArray⟩ : ByteArray) ++ ⟨#[UInt8.ofNat by_.toNat]⟩).data.toList = enc d1 ++ UInt8.ofNat by_.toNat :: [] := by simp
    rw [e]; exact decD_more d1 ok1 _ _))
  generalize hdd : decide (d1 = d2) = dd at *
  generalize enc d1 = E1 at *
  generalize enc d2 = E2 at *
  have hl0 : ((E1.length : Int) == 0) = false := by simp; intro h; rw [h] at hln; simp at hln
  have hl1 : ¬ (1100 : Int) < (E1.length : Int) := by omega
  have hl2 : (k : Int) ≤ (E1.length : Int) := by omega
  have hl3 : (0 : Int) ≤ (k : Int) := by omega
  clear hx hy hat hAx hAy ok1 ok2 hk hdd
  have HB := Below.refl w.heap.size w
  have Hx := Lib.hid (alloc_new' w (.cells #[.int .i64 x.id, .bool x.ans, .int .i64 x.code, .int .i64 x.nm, .bool x.alias, .slice Ax nx cx] 24) (w.heap.size) (by simp))
  have HAx' := Lib.hid (HAx.out.alloc (.cells #[.int .i64 x.id, .bool x.ans, .int .i64 x.code, .int .i64 x.nm, .bool x.alias, .slice Ax nx cx] 24)); clear HAx; have HAx := HAx'; clear HAx'
  have HAy' := Lib.hid (HAy.out.alloc (.cells #[.int .i64 x.id, .bool x.ans, .int .i64 x.code, .int .i64 x.nm, .bool x.alias, .slice Ax nx cx] 24)); clear HAy; have HAy := HAy'; clear HAy'
  have HB' := below_alloc (o := .cells #[.int .i64 x.id, .bool x.ans, .int .i64 x.code, .int .i64 x.nm, .bool x.alias, .slice Ax nx cx] 24) HB; clear HB; have HB := HB'; clear HB'
  have Hy := Lib.hid (alloc_new' (w.alloc (.cells #[.int .i64 x.id, .bool x.ans, .int .i64 x.code, .int .i64 x.nm, .bool x.alias, .slice Ax nx cx] 24)) (.cells #[.int .i64 y.id, .bool y.ans, .int .i64 y.code, .int .i64 y.nm, .bool y.alias, .slice Ay ny cy] 24) (w.heap.size + 1) (by simp))
  have Hx' := Lib.hid (block_alloc Hx.out (.cells #[.int .i64 y.id, .bool y.ans, .int .i64 y.code, .int .i64 y.nm, .bool y.alias, .slice Ay ny cy] 24)); clear Hx; have Hx := Hx'; clear Hx'
  have HAx' := Lib.hid (HAx.out.alloc (.cells #[.int .i64 y.id, .bool y.ans, .int .i64 y.code, .int .i64 y.nm, .bool y.alias, .slice Ay ny cy] 24)); clear HAx; have HAx := HAx'; clear HAx'
  have HAy' := Lib.hid (HAy.out.alloc (.cells #[.int .i64 y.id, .bool y.ans, .int .i64 y.code, .int .i64 y.nm, .bool y.alias, .slice Ay ny cy] 24)); clear HAy; have HAy := HAy'; clear HAy'
  have HB' := below_alloc (o := .cells #[.int .i64 y.id, .bool y.ans, .int .i64 y.code, .int .i64 y.nm, .bool y.alias, .slice Ay ny cy] 24) HB; clear HB; have HB := HB'; clear HB'
  go_enter Try.func5, Try.ntmps5
  go_wp2_with fail
  refine (examples_any _).mono ?_
  rintro e w1 ⟨rfl, hb⟩
  have Hx' := Lib.hid (bblock hb Hx.out); clear Hx; have Hx := Hx'; clear Hx'
  have Hy' := Lib.hid (bblock hb Hy.out); clear Hy; have Hy := Hy'; clear Hy'
  have HAx' := Lib.hid (HAx.out.below hb); clear HAx; have HAx := HAx'; clear HAx'
  have HAy' := Lib.hid (HAy.out.below hb); clear HAy; have HAy := HAy'; clear HAy'
  have HB' := below_call HB hb; clear HB hb; have HB := HB'; clear HB'; have hz1 := HB.size
  have lt_x_1 := blk_lt Hx.out
  have lt_y_1 := blk_lt Hy.out
  have Sx := cells6 Hx.out
  obtain ⟨⟨qx0, qx1, qx2, qx3, qx4, qx5⟩, zx0, zx1, zx2, zx3, zx4, zx5⟩ := Sx
  have lt_x := blk_lt Hx.out
  go_wp2_with fail
  refine (HX.out _ HAx.out).mono ?_
  rintro e w2 ⟨A1, c1, rfl, hr1, hb⟩
  clear qx0 zx0 qx1 zx1 qx2 zx2 qx3 zx3 qx4 zx4 qx5 zx5
  have Hx' := Lib.hid (bblock hb Hx.out); clear Hx; have Hx := Hx'; clear Hx'
  have Hy' := Lib.hid (bblock hb Hy.out); clear Hy; have Hy := Hy'; clear Hy'
  have HAx' := Lib.hid (HAx.out.below hb); clear HAx; have HAx := HAx'; clear HAx'
  have HAy' := Lib.hid (HAy.out.below hb); clear HAy; have HAy := HAy'; clear HAy'
  have HB' := below_call HB hb; clear HB hb; have HB := HB'; clear HB'; have hz2 := HB.size
  have lt_x_2 := blk_lt Hx.out
  have lt_y_2 := blk_lt Hy.out
  have Hr1 := Lib.hid hr1; clear hr1
  have Ha := Lib.hid (alloc_new' w2 (.cells #[.int .i64 d1.id, .bool d1.ans, .int .i64 d1.code, .string ⟨d1.nm.toArray⟩, .int .i64 d1.kd, .slice A1 d1.recs.length c1] 27) (w2.heap.size) (by simp))
  have Hx' := Lib.hid (block_alloc Hx.out (.cells #[.int .i64 d1.id, .bool d1.ans, .int .i64 d1.code, .string ⟨d1.nm.toArray⟩, .int .i64 d1.kd, .slice A1 d1.recs.length c1] 27)); clear Hx; have Hx := Hx'; clear Hx'
  have Hy' := Lib.hid (block_alloc Hy.out (.cells #[.int .i64 d1.id, .bool d1.ans, .int .i64 d1.code, .string ⟨d1.nm.toArray⟩, .int .i64 d1.kd, .slice A1 d1.recs.length c1] 27)); clear Hy; have Hy := Hy'; clear Hy'
  have HAx' := Lib.hid (HAx.out.alloc (.cells #[.int .i64 d1.id, .bool d1.ans, .int .i64 d1.code, .string ⟨d1.nm.toArray⟩, .int .i64 d1.kd, .slice A1 d1.recs.length c1] 27)); clear HAx; have HAx := HAx'; clear HAx'
  have HAy' := Lib.hid (HAy.out.alloc (.cells #[.int .i64 d1.id, .bool d1.ans, .int .i64 d1.code, .string ⟨d1.nm.toArray⟩, .int .i64 d1.kd, .slice A1 d1.recs.length c1] 27)); clear HAy; have HAy := HAy'; clear HAy'
  have Hr1' := Lib.hid (Hr1.out.alloc (.cells #[.int .i64 d1.id, .bool d1.ans, .int .i64 d1.code, .string ⟨d1.nm.toArray⟩, .int .i64 d1.kd, .slice A1 d1.recs.length c1] 27)); clear Hr1; have Hr1 := Hr1'; clear Hr1'
  have HB' := below_alloc (o := .cells #[.int .i64 d1.id, .bool d1.ans, .int .i64 d1.code, .string ⟨d1.nm.toArray⟩, .int .i64 d1.kd, .slice A1 d1.recs.length c1] 27) HB; clear HB; have HB := HB'; clear HB'
  have Sy := cells6 Hy.out
  obtain ⟨⟨qy0, qy1, qy2, qy3, qy4, qy5⟩, zy0, zy1, zy2, zy3, zy4, zy5⟩ := Sy
  have lt_y := blk_lt Hy.out
  go_wp2_with fail
  refine (HY.out _ HAy.out).mono ?_
  rintro e w3 ⟨A2, c2, rfl, hr2, hb⟩
  clear qy0 zy0 qy1 zy1 qy2 zy2 qy3 zy3 qy4 zy4 qy5 zy5
  have Hx' := Lib.hid (bblock hb Hx.out); clear Hx; have Hx := Hx'; clear Hx'
  have Hy' := Lib.hid (bblock hb Hy.out); clear Hy; have Hy := Hy'; clear Hy'
  have Ha' := Lib.hid (bblock hb Ha.out); clear Ha; have Ha := Ha'; clear Ha'
  have HAx' := Lib.hid (HAx.out.below hb); clear HAx; have HAx := HAx'; clear HAx'
  have HAy' := Lib.hid (HAy.out.below hb); clear HAy; have HAy := HAy'; clear HAy'
  have Hr1' := Lib.hid (Hr1.out.below hb); clear Hr1; have Hr1 := Hr1'; clear Hr1'
  have HB' := below_call HB hb; clear HB hb; have HB := HB'; clear HB'; have hz3 := HB.size
  have lt_x_3 := blk_lt Hx.out
  have lt_y_3 := blk_lt Hy.out
  have lt_a_3 := blk_lt Ha.out
  have Hr2 := Lib.hid hr2; clear hr2
  have Hb := Lib.hid (alloc_new' w3 (.cells #[.int .i64 d2.id, .bool d2.ans, .int .i64 d2.code, .string ⟨d2.nm.toArray⟩, .int .i64 d2.kd, .slice A2 d2.recs.length c2] 27) (w3.heap.size) (by simp))
  have Hx' := Lib.hid (block_alloc Hx.out (.cells #[.int .i64 d2.id, .bool d2.ans, .int .i64 d2.code, .string ⟨d2.nm.toArray⟩, .int .i64 d2.kd, .slice A2 d2.recs.length c2] 27)); clear Hx; have Hx := Hx'; clear Hx'
  have Hy' := Lib.hid (block_alloc Hy.out (.cells #[.int .i64 d2.id, .bool d2.ans, .int .i64 d2.code, .string ⟨d2.nm.toArray⟩, .int .i64 d2.kd, .slice A2 d2.recs.length c2] 27)); clear Hy; have Hy := Hy'; clear Hy'
  have Ha' := Lib.hid (block_alloc Ha.out (.cells #[.int .i64 d2.id, .bool d2.ans, .int .i64 d2.code, .string ⟨d2.nm.toArray⟩, .int .i64 d2.kd, .slice A2 d2.recs.length c2] 27)); clear Ha; have Ha := Ha'; clear Ha'
  have HAx' := Lib.hid (HAx.out.alloc (.cells #[.int .i64 d2.id, .bool d2.ans, .int .i64 d2.code, .string ⟨d2.nm.toArray⟩, .int .i64 d2.kd, .slice A2 d2.recs.length c2] 27)); clear HAx; have HAx := HAx'; clear HAx'
  have HAy' := Lib.hid (HAy.out.alloc (.cells #[.int .i64 d2.id, .bool d2.ans, .int .i64 d2.code, .string ⟨d2.nm.toArray⟩, .int .i64 d2.kd, .slice A2 d2.recs.length c2] 27)); clear HAy; have HAy := HAy'; clear HAy'
  have Hr1' := Lib.hid (Hr1.out.alloc (.cells #[.int .i64 d2.id, .bool d2.ans, .int .i64 d2.code, .string ⟨d2.nm.toArray⟩, .int .i64 d2.kd, .slice A2 d2.recs.length c2] 27)); clear Hr1; have Hr1 := Hr1'; clear Hr1'
  have Hr2' := Lib.hid (Hr2.out.alloc (.cells #[.int .i64 d2.id, .bool d2.ans, .int .i64 d2.code, .string ⟨d2.nm.toArray⟩, .int .i64 d2.kd, .slice A2 d2.recs.length c2] 27)); clear Hr2; have Hr2 := Hr2'; clear Hr2'
  have HB' := below_alloc (o := .cells #[.int .i64 d2.id, .bool d2.ans, .int .i64 d2.code, .string ⟨d2.nm.toArray⟩, .int .i64 d2.kd, .slice A2 d2.recs.length c2] 27) HB; clear HB; have HB := HB'; clear HB'
  have Sa := cells6 Ha.out
  obtain ⟨⟨qa0, qa1, qa2, qa3, qa4, qa5⟩, za0, za1, za2, za3, za4, za5⟩ := Sa
  have lt_a := blk_lt Ha.out
  go_wp2_with fail
  refine (HE1.out _ _ _ _ Hr1.out).mono ?_
  rintro e w4 ⟨rfl, hb⟩
  clear qa0 za0 qa1 za1 qa2 za2 qa3 za3 qa4 za4 qa5 za5
  have Hx' := Lib.hid (bblock hb Hx.out); clear Hx; have Hx := Hx'; clear Hx'
  have Hy' := Lib.hid (bblock hb Hy.out); clear Hy; have Hy := Hy'; clear Hy'
  have Ha' := Lib.hid (bblock hb Ha.out); clear Ha; have Ha := Ha'; clear Ha'
  have Hb' := Lib.hid (bblock hb Hb.out); clear Hb; have Hb := Hb'; clear Hb'
  have HAx' := Lib.hid (HAx.out.below hb); clear HAx; have HAx := HAx'; clear HAx'
  have HAy' := Lib.hid (HAy.out.below hb); clear HAy; have HAy := HAy'; clear HAy'
  have Hr1' := Lib.hid (Hr1.out.below hb); clear Hr1; have Hr1 := Hr1'; clear Hr1'
  have Hr2' := Lib.hid (Hr2.out.below hb); clear Hr2; have Hr2 := Hr2'; clear Hr2'
  have HB' := below_call HB hb; clear HB hb; have HB := HB'; clear HB'; have hz4 := HB.size
  have lt_x_4 := blk_lt Hx.out
  have lt_y_4 := blk_lt Hy.out
  have lt_a_4 := blk_lt Ha.out
  have lt_b_4 := blk_lt Hb.out
  have Sb := cells6 Hb.out
  obtain ⟨⟨qb0, qb1, qb2, qb3, qb4, qb5⟩, zb0, zb1, zb2, zb3, zb4, zb5⟩ := Sb
  have lt_b := blk_lt Hb.out
  go_wp2_with fail
  refine (HE2.out _ _ _ _ Hr2.out).mono ?_
  rintro e w5 ⟨rfl, hb⟩
  clear qb0 zb0 qb1 zb1 qb2 zb2 qb3 zb3 qb4 zb4 qb5 zb5
  have Hx' := Lib.hid (bblock hb Hx.out); clear Hx; have Hx := Hx'; clear Hx'
  have Hy' := Lib.hid (bblock hb Hy.out); clear Hy; have Hy := Hy'; clear Hy'
  have Ha' := Lib.hid (bblock hb Ha.out); clear Ha; have Ha := Ha'; clear Ha'
  have Hb' := Lib.hid (bblock hb Hb.out); clear Hb; have Hb := Hb'; clear Hb'
  have HAx' := Lib.hid (HAx.out.below hb); clear HAx; have HAx := HAx'; clear HAx'
  have HAy' := Lib.hid (HAy.out.below hb); clear HAy; have HAy := HAy'; clear HAy'
  have Hr1' := Lib.hid (Hr1.out.below hb); clear Hr1; have Hr1 := Hr1'; clear Hr1'
  have Hr2' := Lib.hid (Hr2.out.below hb); clear Hr2; have Hr2 := Hr2'; clear Hr2'
  have HB' := below_call HB hb; clear HB hb; have HB := HB'; clear HB'; have hz5 := HB.size
  have lt_x_5 := blk_lt Hx.out
  have lt_y_5 := blk_lt Hy.out
  have lt_a_5 := blk_lt Ha.out
  have lt_b_5 := blk_lt Hb.out
  go_wp2_with fail
  refine (HD1.out _).mono ?_
  rintro e w6 ⟨⟨A3, c3, rfl, hr3⟩, hb⟩
  have Hx' := Lib.hid (bblock hb Hx.out); clear Hx; have Hx := Hx'; clear Hx'
  have Hy' := Lib.hid (bblock hb Hy.out); clear Hy; have Hy := Hy'; clear Hy'
  have Ha' := Lib.hid (bblock hb Ha.out); clear Ha; have Ha := Ha'; clear Ha'
  have Hb' := Lib.hid (bblock hb Hb.out); clear Hb; have Hb := Hb'; clear Hb'
  have HAx' := Lib.hid (HAx.out.below hb); clear HAx; have HAx := HAx'; clear HAx'
  have HAy' := Lib.hid (HAy.out.below hb); clear HAy; have HAy := HAy'; clear HAy'
  have Hr1' := Lib.hid (Hr1.out.below hb); clear Hr1; have Hr1 := Hr1'; clear Hr1'
  have Hr2' := Lib.hid (Hr2.out.below hb); clear Hr2; have Hr2 := Hr2'; clear Hr2'
  have HB' := below_call HB hb; clear HB hb; have HB := HB'; clear HB'; have hz6 := HB.size
  have lt_x_6 := blk_lt Hx.out
  have lt_y_6 := blk_lt Hy.out
  have lt_a_6 := blk_lt Ha.out
  have lt_b_6 := blk_lt Hb.out
  have Hr3 := Lib.hid hr3; clear hr3
  have Hc := Lib.hid (alloc_new' w6 (.cells #[.int .i64 d1.id, .bool d1.ans, .int .i64 d1.code, .string ⟨d1.nm.toArray⟩, .int .i64 d1.kd, .slice A3 d1.recs.length c3] 27) (w6.heap.size) (by simp))
  have Hx' := Lib.hid (block_alloc Hx.out (.cells #[.int .i64 d1.id, .bool d1.ans, .int .i64 d1.code, .string ⟨d1.nm.toArray⟩, .int .i64 d1.kd, .slice A3 d1.recs.length c3] 27)); clear Hx; have Hx := Hx'; clear Hx'
  have Hy' := Lib.hid (block_alloc Hy.out (.cells #[.int .i64 d1.id, .bool d1.ans, .int .i64 d1.code, .string ⟨d1.nm.toArray⟩, .int .i64 d1.kd, .slice A3 d1.recs.length c3] 27)); clear Hy; have Hy := Hy'; clear Hy'
  have Ha' := Lib.hid (block_alloc Ha.out (.cells #[.int .i64 d1.id, .bool d1.ans, .int .i64 d1.code, .string ⟨d1.nm.toArray⟩, .int .i64 d1.kd, .slice A3 d1.recs.length c3] 27)); clear Ha; have Ha := Ha'; clear Ha'
  have Hb' := Lib.hid (block_alloc Hb.out (.cells #[.int .i64 d1.id, .bool d1.ans, .int .i64 d1.code, .string ⟨d1.nm.toArray⟩, .int .i64 d1.kd, .slice A3 d1.recs.length c3] 27)); clear Hb; have Hb := Hb'; clear Hb'
  have HAx' := Lib.hid (HAx.out.alloc (.cells #[.int .i64 d1.id, .bool d1.ans, .int .i64 d1.code, .string ⟨d1.nm.toArray⟩, .int .i64 d1.kd, .slice A3 d1.recs.length c3] 27)); clear HAx; have HAx := HAx'; clear HAx'
  have HAy' := Lib.hid (HAy.out.alloc (.cells #[.int .i64 d1.id, .bool d1.ans, .int .i64 d1.code, .string ⟨d1.nm.toArray⟩, .int .i64 d1.kd, .slice A3 d1.recs.length c3] 27)); clear HAy; have HAy := HAy'; clear HAy'
  have Hr1' := Lib.hid (Hr1.out.alloc (.cells #[.int .i64 d1.id, .bool d1.ans, .int .i64 d1.code, .string ⟨d1.nm.toArray⟩, .int .i64 d1.kd, .slice A3 d1.recs.length c3] 27)); clear Hr1; have Hr1 := Hr1'; clear Hr1'
  have Hr2' := Lib.hid (Hr2.out.alloc (.cells #[.int .i64 d1.id, .bool d1.ans, .int .i64 d1.code, .string ⟨d1.nm.toArray⟩, .int .i64 d1.kd, .slice A3 d1.recs.length c3] 27)); clear Hr2; have Hr2 := Hr2'; clear Hr2'
  have Hr3' := Lib.hid (Hr3.out.alloc (.cells #[.int .i64 d1.id, .bool d1.ans, .int .i64 d1.code, .string ⟨d1.nm.toArray⟩, .int .i64 d1.kd, .slice A3 d1.recs.length c3] 27)); clear Hr3; have Hr3 := Hr3'; clear Hr3'
  have HB' := below_alloc (o := .cells #[.int .i64 d1.id, .bool d1.ans, .int .i64 d1.code, .string ⟨d1.nm.toArray⟩, .int .i64 d1.kd, .slice A3 d1.recs.length c3] 27) HB; clear HB; have HB := HB'; clear HB'
  have Sa := cells6 Ha.out
  obtain ⟨⟨qa0, qa1, qa2, qa3, qa4, qa5⟩, za0, za1, za2, za3, za4, za5⟩ := Sa
  have lt_a := blk_lt Ha.out
  have Sc := cells6 Hc.out
  obtain ⟨⟨qc0, qc1, qc2, qc3, qc4, qc5⟩, zc0, zc1, zc2, zc3, zc4, zc5⟩ := Sc
  have lt_c := blk_lt Hc.out
  go_wp2_with fail
  refine (HS.out _ _ _ _ _ _ _ Hr3.out Hr1.out).mono ?_
  rintro e w7 ⟨rfl, hb⟩
  clear qa0 za0 qa1 za1 qa2 za2 qa3 za3 qa4 za4 qa5 za5
  clear qc0 zc0 qc1 zc1 qc2 zc2 qc3 zc3 qc4 zc4 qc5 zc5
  have Hx' := Lib.hid (bblock hb Hx.out); clear Hx; have Hx := Hx'; clear Hx'
  have Hy' := Lib.hid (bblock hb Hy.out); clear Hy; have Hy := Hy'; clear Hy'
  have Ha' := Lib.hid (bblock hb Ha.out); clear Ha; have Ha := Ha'; clear Ha'
  have Hb' := Lib.hid (bblock hb Hb.out); clear Hb; have Hb := Hb'; clear Hb'
  have Hc' := Lib.hid (bblock hb Hc.out); clear Hc; have Hc := Hc'; clear Hc'
  have HAx' := Lib.hid (HAx.out.below hb); clear HAx; have HAx := HAx'; clear HAx'
  have HAy' := Lib.hid (HAy.out.below hb); clear HAy; have HAy := HAy'; clear HAy'
  have Hr1' := Lib.hid (Hr1.out.below hb); clear Hr1; have Hr1 := Hr1'; clear Hr1'
  have Hr2' := Lib.hid (Hr2.out.below hb); clear Hr2; have Hr2 := Hr2'; clear Hr2'
  have Hr3' := Lib.hid (Hr3.out.below hb); clear Hr3; have Hr3 := Hr3'; clear Hr3'
  have HB' := below_call HB hb; clear HB hb; have HB := HB'; clear HB'; have hz7 := HB.size
  have lt_x_7 := blk_lt Hx.out
  have lt_y_7 := blk_lt Hy.out
  have lt_a_7 := blk_lt Ha.out
  have lt_b_7 := blk_lt Hb.out
  have lt_c_7 := blk_lt Hc.out
  have Sa := cells6 Ha.out
  obtain ⟨⟨qa0, qa1, qa2, qa3, qa4, qa5⟩, za0, za1, za2, za3, za4, za5⟩ := Sa
  have lt_a := blk_lt Ha.out
  have Sb := cells6 Hb.out
  obtain ⟨⟨qb0, qb1, qb2, qb3, qb4, qb5⟩, zb0, zb1, zb2, zb3, zb4, zb5⟩ := Sb
  have lt_b := blk_lt Hb.out
  go_wp2_with fail
  refine (HR.out _ _ _ _ _ _ _ Hr1.out Hr2.out).mono ?_
  rintro e w8 ⟨rfl, hb⟩
  clear qa0 za0 qa1 za1 qa2 za2 qa3 za3 qa4 za4 qa5 za5
  clear qb0 zb0 qb1 zb1 qb2 zb2 qb3 zb3 qb4 zb4 qb5 zb5
  have Hx' := Lib.hid (bblock hb Hx.out); clear Hx; have Hx := Hx'; clear Hx'
  have Hy' := Lib.hid (bblock hb Hy.out); clear Hy; have Hy := Hy'; clear Hy'
  have Ha' := Lib.hid (bblock hb Ha.out); clear Ha; have Ha := Ha'; clear Ha'
  have Hb' := Lib.hid (bblock hb Hb.out); clear Hb; have Hb := Hb'; clear Hb'
  have Hc' := Lib.hid (bblock hb Hc.out); clear Hc; have Hc := Hc'; clear Hc'
  have HAx' := Lib.hid (HAx.out.below hb); clear HAx; have HAx := HAx'; clear HAx'
  have HAy' := Lib.hid (HAy.out.below hb); clear HAy; have HAy := HAy'; clear HAy'
  have Hr1' := Lib.hid (Hr1.out.below hb); clear Hr1; have Hr1 := Hr1'; clear Hr1'
  have Hr2' := Lib.hid (Hr2.out.below hb); clear Hr2; have Hr2 := Hr2'; clear Hr2'
  have Hr3' := Lib.hid (Hr3.out.below hb); clear Hr3; have Hr3 := Hr3'; clear Hr3'
  have HB' := below_call HB hb; clear HB hb; have HB := HB'; clear HB'; have hz8 := HB.size
  have lt_x_8 := blk_lt Hx.out
  have lt_y_8 := blk_lt Hy.out
  have lt_a_8 := blk_lt Ha.out
  have lt_b_8 := blk_lt Hb.out
  have lt_c_8 := blk_lt Hc.out
  go_wp2_with fail
  refine (HK.out _).mono ?_
  rintro e w' ⟨rfl, rfl⟩
  go_wp2_with fail
  refine (HC.out _).mono ?_
  rintro e w9 ⟨rfl, hb⟩
  have Hx' := Lib.hid (bblock hb Hx.out); clear Hx; have Hx := Hx'; clear Hx'
  have Hy' := Lib.hid (bblock hb Hy.out); clear Hy; have Hy := Hy'; clear Hy'
  have Ha' := Lib.hid (bblock hb Ha.out); clear Ha; have Ha := Ha'; clear Ha'
  have Hb' := Lib.hid (bblock hb Hb.out); clear Hb; have Hb := Hb'; clear Hb'
  have Hc' := Lib.hid (bblock hb Hc.out); clear Hc; have Hc := Hc'; clear Hc'
  have HAx' := Lib.hid (HAx.out.below hb); clear HAx; have HAx := HAx'; clear HAx'
  have HAy' := Lib.hid (HAy.out.below hb); clear HAy; have HAy := HAy'; clear HAy'
  have Hr1' := Lib.hid (Hr1.out.below hb); clear Hr1; have Hr1 := Hr1'; clear Hr1'
  have Hr2' := Lib.hid (Hr2.out.below hb); clear Hr2; have Hr2 := Hr2'; clear Hr2'
  have Hr3' := Lib.hid (Hr3.out.below hb); clear Hr3; have Hr3 := Hr3'; clear Hr3'
  have HB' := below_call HB hb; clear HB hb; have HB := HB'; clear HB'; have hz9 := HB.size
  have lt_x_9 := blk_lt Hx.out
  have lt_y_9 := blk_lt Hy.out
  have lt_a_9 := blk_lt Ha.out
  have lt_b_9 := blk_lt Hb.out
  have lt_c_9 := blk_lt Hc.out
  have Hx' := Lib.hid (block_alloc Hx.out (.cells #[.int .i64 0, .bool false, .int .i64 0, .string ⟨#[]⟩, .int .i64 0, .slice none 0 0] 27)); clear Hx; have Hx := Hx'; clear Hx'
  have Hy' := Lib.hid (block_alloc Hy.out (.cells #[.int .i64 0, .bool false, .int .i64 0, .string ⟨#[]⟩, .int .i64 0, .slice none 0 0] 27)); clear Hy; have Hy := Hy'; clear Hy'
  have Ha' := Lib.hid (block_alloc Ha.out (.cells #[.int .i64 0, .bool false, .int .i64 0, .string ⟨#[]⟩, .int .i64 0, .slice none 0 0] 27)); clear Ha; have Ha := Ha'; clear Ha'
  have Hb' := Lib.hid (block_alloc Hb.out (.cells #[.int .i64 0, .bool false, .int .i64 0, .string ⟨#[]⟩, .int .i64 0, .slice none 0 0] 27)); clear Hb; have Hb := Hb'; clear Hb'
  have Hc' := Lib.hid (block_alloc Hc.out (.cells #[.int .i64 0, .bool false, .int .i64 0, .string ⟨#[]⟩, .int .i64 0, .slice none 0 0] 27)); clear Hc; have Hc := Hc'; clear Hc'
  have HAx' := Lib.hid (HAx.out.alloc (.cells #[.int .i64 0, .bool false, .int .i64 0, .string ⟨#[]⟩, .int .i64 0, .slice none 0 0] 27)); clear HAx; have HAx := HAx'; clear HAx'
  have HAy' := Lib.hid (HAy.out.alloc (.cells #[.int .i64 0, .bool false, .int .i64 0, .string ⟨#[]⟩, .int .i64 0, .slice none 0 0] 27)); clear HAy; have HAy := HAy'; clear HAy'
  have Hr1' := Lib.hid (Hr1.out.alloc (.cells #[.int .i64 0, .bool false, .int .i64 0, .string ⟨#[]⟩, .int .i64 0, .slice none 0 0] 27)); clear Hr1; have Hr1 := Hr1'; clear Hr1'
  have Hr2' := Lib.hid (Hr2.out.alloc (.cells #[.int .i64 0, .bool false, .int .i64 0, .string ⟨#[]⟩, .int .i64 0, .slice none 0 0] 27)); clear Hr2; have Hr2 := Hr2'; clear Hr2'
  have Hr3' := Lib.hid (Hr3.out.alloc (.cells #[.int .i64 0, .bool false, .int .i64 0, .string ⟨#[]⟩, .int .i64 0, .slice none 0 0] 27)); clear Hr3; have Hr3 := Hr3'; clear Hr3'
  have HB' := below_alloc (o := .cells #[.int .i64 0, .bool false, .int .i64 0, .string ⟨#[]⟩, .int .i64 0, .slice none 0 0] 27) HB; clear HB; have HB := HB'; clear HB'
  have hcv := conv_one
  go_wp2_with fail
  have Hx' := Lib.hid (block_alloc Hx.out (.cells #[.int .u8 by_] 5)); clear Hx; have Hx := Hx'; clear Hx'
  have Hy' := Lib.hid (block_alloc Hy.out (.cells #[.int .u8 by_] 5)); clear Hy; have Hy := Hy'; clear Hy'
  have Ha' := Lib.hid (block_alloc Ha.out (.cells #[.int .u8 by_] 5)); clear Ha; have Ha := Ha'; clear Ha'
  have Hb' := Lib.hid (block_alloc Hb.out (.cells #[.int .u8 by_] 5)); clear Hb; have Hb := Hb'; clear Hb'
  have Hc' := Lib.hid (block_alloc Hc.out (.cells #[.int .u8 by_] 5)); clear Hc; have Hc := Hc'; clear Hc'
  have HAx' := Lib.hid (HAx.out.alloc (.cells #[.int .u8 by_] 5)); clear HAx; have HAx := HAx'; clear HAx'
  have HAy' := Lib.hid (HAy.out.alloc (.cells #[.int .u8 by_] 5)); clear HAy; have HAy := HAy'; clear HAy'
  have Hr1' := Lib.hid (Hr1.out.alloc (.cells #[.int .u8 by_] 5)); clear Hr1; have Hr1 := Hr1'; clear Hr1'
  have Hr2' := Lib.hid (Hr2.out.alloc (.cells #[.int .u8 by_] 5)); clear Hr2; have Hr2 := Hr2'; clear Hr2'
  have Hr3' := Lib.hid (Hr3.out.alloc (.cells #[.int .u8 by_] 5)); clear Hr3; have Hr3 := Hr3'; clear Hr3'
  have HB' := below_alloc (o := .cells #[.int .u8 by_] 5) HB; clear HB; have HB := HB'; clear HB'
  refine (HM.out _).mono ?_
  rintro e w10 ⟨rfl, hb⟩
  have Hx' := Lib.hid (bblock hb Hx.out); clear Hx; have Hx := Hx'; clear Hx'
  have Hy' := Lib.hid (bblock hb Hy.out); clear Hy; have Hy := Hy'; clear Hy'
  have Ha' := Lib.hid (bblock hb Ha.out); clear Ha; have Ha := Ha'; clear Ha'
  have Hb' := Lib.hid (bblock hb Hb.out); clear Hb; have Hb := Hb'; clear Hb'
  have Hc' := Lib.hid (bblock hb Hc.out); clear Hc; have Hc := Hc'; clear Hc'
  have HAx' := Lib.hid (HAx.out.below hb); clear HAx; have HAx := HAx'; clear HAx'
  have HAy' := Lib.hid (HAy.out.below hb); clear HAy; have HAy := HAy'; clear HAy'
  have Hr1' := Lib.hid (Hr1.out.below hb); clear Hr1; have Hr1 := Hr1'; clear Hr1'
  have Hr2' := Lib.hid (Hr2.out.below hb); clear Hr2; have Hr2 := Hr2'; clear Hr2'
  have Hr3' := Lib.hid (Hr3.out.below hb); clear Hr3; have Hr3 := Hr3'; clear Hr3'
  have HB' := below_call HB hb; clear HB hb; have HB := HB'; clear HB'; have hz10 := HB.size
  have lt_x_10 := blk_lt Hx.out
  have lt_y_10 := blk_lt Hy.out
  have lt_a_10 := blk_lt Ha.out
  have lt_b_10 := blk_lt Hb.out
  have lt_c_10 := blk_lt Hc.out
  have Hx' := Lib.hid (block_alloc Hx.out (.cells #[.int .i64 0, .bool false, .int .i64 0, .string ⟨#[]⟩, .int .i64 0, .slice none 0 0] 27)); clear Hx; have Hx := Hx'; clear Hx'
  have Hy' := Lib.hid (block_alloc Hy.out (.cells #[.int .i64 0, .bool false, .int .i64 0, .string ⟨#[]⟩, .int .i64 0, .slice none 0 0] 27)); clear Hy; have Hy := Hy'; clear Hy'
  have Ha' := Lib.hid (block_alloc Ha.out (.cells #[.int .i64 0, .bool false, .int .i64 0, .string ⟨#[]⟩, .int .i64 0, .slice none 0 0] 27)); clear Ha; have Ha := Ha'; clear Ha'
  have Hb' := Lib.hid (block_alloc Hb.out (.cells #[.int .i64 0, .bool false, .int .i64 0, .string ⟨#[]⟩, .int .i64 0, .slice none 0 0] 27)); clear Hb; have Hb := Hb'; clear Hb'
  have Hc' := Lib.hid (block_alloc Hc.out (.cells #[.int .i64 0, .bool false, .int .i64 0, .string ⟨#[]⟩, .int .i64 0, .slice none 0 0] 27)); clear Hc; have Hc := Hc'; clear Hc'
  have HAx' := Lib.hid (HAx.out.alloc (.cells #[.int .i64 0, .bool false, .int .i64 0, .string ⟨#[]⟩, .int .i64 0, .slice none 0 0] 27)); clear HAx; have HAx := HAx'; clear HAx'
  have HAy' := Lib.hid (HAy.out.alloc (.cells #[.int .i64 0, .bool false, .int .i64 0, .string ⟨#[]⟩, .int .i64 0, .slice none 0 0] 27)); clear HAy; have HAy := HAy'; clear HAy'
  have Hr1' := Lib.hid (Hr1.out.alloc (.cells #[.int .i64 0, .bool false, .int .i64 0, .string ⟨#[]⟩, .int .i64 0, .slice none 0 0] 27)); clear Hr1; have Hr1 := Hr1'; clear Hr1'
  have Hr2' := Lib.hid (Hr2.out.alloc (.cells #[.int .i64 0, .bool false, .int .i64 0, .string ⟨#[]⟩, .int .i64 0, .slice none 0 0] 27)); clear Hr2; have Hr2 := Hr2'; clear Hr2'
  have Hr3' := Lib.hid (Hr3.out.alloc (.cells #[.int .i64 0, .bool false, .int .i64 0, .string ⟨#[]⟩, .int .i64 0, .slice none 0 0] 27)); clear Hr3; have Hr3 := Hr3'; clear Hr3'
  have HB' := below_alloc (o := .cells #[.int .i64 0, .bool false, .int .i64 0, .string ⟨#[]⟩, .int .i64 0, .slice none 0 0] 27) HB; clear HB; have HB := HB'; clear HB'
  go_wp2_with fail
  go_ret
  exact ⟨rfl, HB⟩
end Go.Proofs.Ythdggmigjddneaa.Dn
