/-
  The walk of the law IPRoundTrip.
-/
import Derived.Test.YtabfihknhbfjeaaLaw06r
namespace Go.Proofs.Ytabfihknhbfjeaa.Ip
open Go.RowKit Go.Proofs.Ytabfihknhbfjeaa.Wire Go.Proofs.Ytabfihknhbfjeaa.Gen

set_option maxRecDepth 100000 in
set_option maxHeartbeats 4000000 in
theorem rt_walk (x0 x1 x2 x3 x4 x5 x6 x7 y0 y1 y2 y3 y4 y5 y6 y7 at_ by_ : Int) (xs ys : ByteArray) (w : World) (hat : In64 at_) (hby : In64 by_)
    (HX : Hid (∀ w, Calls Try.prog 9 #[.agg #[.int .i64 x0, .int .i64 x1, .int .i64 x2, .int .i64 x3, .int .i64 x4, .int .i64 x5, .int .i64 x6, .int .i64 x7, .string xs]] w fun e w' => (∃ p : Pk, p.ok ∧ p.s.size ≤ 300 ∧ e = .returned (.agg #[.int .i64 p.f, .int .i64 p.t, .int .i64 p.pr, .int .i64 p.ttl, .int .i64 p.id, .bool p.df, .bool p.mf, .int .i64 p.off, .string p.s])) ∧ Below w.heap.size w w'))
    (HY : Hid (∀ w, Calls Try.prog 9 #[.agg #[.int .i64 y0, .int .i64 y1, .int .i64 y2, .int .i64 y3, .int .i64 y4, .int .i64 y5, .int .i64 y6, .int .i64 y7, .string ys]] w fun e w' => (∃ p : Pk, p.ok ∧ p.s.size ≤ 300 ∧ e = .returned (.agg #[.int .i64 p.f, .int .i64 p.t, .int .i64 p.pr, .int .i64 p.ttl, .int .i64 p.id, .bool p.df, .bool p.mf, .int .i64 p.off, .string p.s])) ∧ Below w.heap.size w w')) :
    Calls Try.prog 5 #[.agg #[.int .i64 x0, .int .i64 x1, .int .i64 x2, .int .i64 x3, .int .i64 x4, .int .i64 x5, .int .i64 x6, .int .i64 x7, .string xs], .agg #[.int .i64 y0, .int .i64 y1, .int .i64 y2, .int .i64 y3, .int .i64 y4, .int .i64 y5, .int .i64 y6, .int .i64 y7, .string ys], .int .i64 at_, .int .i64 by_] w fun e w' => e = .returned (.bool true) ∧ Below w.heap.size w w' := by
  go_enter Try.func5, Try.ntmps5
  have HB := Below.refl w.heap.size w
  have Hx := Lib.hid (alloc_new' w (.cells #[.int .i64 x0, .int .i64 x1, .int .i64 x2, .int .i64 x3, .int .i64 x4, .int .i64 x5, .int .i64 x6, .int .i64 x7, .string xs] 23) (w.heap.size) (by simp))
  have HB' := below_alloc (o := .cells #[.int .i64 x0, .int .i64 x1, .int .i64 x2, .int .i64 x3, .int .i64 x4, .int .i64 x5, .int .i64 x6, .int .i64 x7, .string xs] 23) HB; clear HB; have HB := HB'; clear HB'
  have Hy := Lib.hid (alloc_new' (w.alloc (.cells #[.int .i64 x0, .int .i64 x1, .int .i64 x2, .int .i64 x3, .int .i64 x4, .int .i64 x5, .int .i64 x6, .int .i64 x7, .string xs] 23)) (.cells #[.int .i64 y0, .int .i64 y1, .int .i64 y2, .int .i64 y3, .int .i64 y4, .int .i64 y5, .int .i64 y6, .int .i64 y7, .string ys] 23) (w.heap.size + 1) (by simp))
  have Hx' := Lib.hid (block_alloc Hx.out (.cells #[.int .i64 y0, .int .i64 y1, .int .i64 y2, .int .i64 y3, .int .i64 y4, .int .i64 y5, .int .i64 y6, .int .i64 y7, .string ys] 23)); clear Hx; have Hx := Hx'; clear Hx'
  have HB' := below_alloc (o := .cells #[.int .i64 y0, .int .i64 y1, .int .i64 y2, .int .i64 y3, .int .i64 y4, .int .i64 y5, .int .i64 y6, .int .i64 y7, .string ys] 23) HB; clear HB; have HB := HB'; clear HB'
  go_wp2_with fail
  refine (sane_any _).mono ?_
  rintro e w1 ⟨rfl, hb⟩
  have Hx' := Lib.hid (bblock hb Hx.out); clear Hx; have Hx := Hx'; clear Hx'
  have Hy' := Lib.hid (bblock hb Hy.out); clear Hy; have Hy := Hy'; clear Hy'
  have HB' := below_call HB hb; clear HB hb; have HB := HB'; clear HB'; have hz1 := HB.size
  have lt_x_1 := blk_lt Hx.out
  have lt_y_1 := blk_lt Hy.out
  have Sx := cells9 Hx.out
  obtain ⟨⟨qx0, qx1, qx2, qx3, qx4, qx5, qx6, qx7, qx8⟩, zx0, zx1, zx2, zx3, zx4, zx5, zx6, zx7, zx8⟩ := Sx
  have lt_x := blk_lt Hx.out
  go_wp2_with fail
  refine (HX.out _).mono ?_
  rintro e w2 ⟨⟨p, hp, hps, rfl⟩, hb⟩
  clear qx0 zx0 qx1 zx1 qx2 zx2 qx3 zx3 qx4 zx4 qx5 zx5 qx6 zx6 qx7 zx7 qx8 zx8
  have Hx' := Lib.hid (bblock hb Hx.out); clear Hx; have Hx := Hx'; clear Hx'
  have Hy' := Lib.hid (bblock hb Hy.out); clear Hy; have Hy := Hy'; clear Hy'
  have HB' := below_call HB hb; clear HB hb; have HB := HB'; clear HB'; have hz2 := HB.size
  have lt_x_2 := blk_lt Hx.out
  have lt_y_2 := blk_lt Hy.out
  have Hp := Lib.hid (alloc_new' w2 (.cells #[.int .i64 p.f, .int .i64 p.t, .int .i64 p.pr, .int .i64 p.ttl, .int .i64 p.id, .bool p.df, .bool p.mf, .int .i64 p.off, .string p.s] 26) (w2.heap.size) (by simp))
  have Hx' := Lib.hid (block_alloc Hx.out (.cells #[.int .i64 p.f, .int .i64 p.t, .int .i64 p.pr, .int .i64 p.ttl, .int .i64 p.id, .bool p.df, .bool p.mf, .int .i64 p.off, .string p.s] 26)); clear Hx; have Hx := Hx'; clear Hx'
  have Hy' := Lib.hid (block_alloc Hy.out (.cells #[.int .i64 p.f, .int .i64 p.t, .int .i64 p.pr, .int .i64 p.ttl, .int .i64 p.id, .bool p.df, .bool p.mf, .int .i64 p.off, .string p.s] 26)); clear Hy; have Hy := Hy'; clear Hy'
  have HB' := below_alloc (o := .cells #[.int .i64 p.f, .int .i64 p.t, .int .i64 p.pr, .int .i64 p.ttl, .int .i64 p.id, .bool p.df, .bool p.mf, .int .i64 p.off, .string p.s] 26) HB; clear HB; have HB := HB'; clear HB'
  have Sy := cells9 Hy.out
  obtain ⟨⟨qy0, qy1, qy2, qy3, qy4, qy5, qy6, qy7, qy8⟩, zy0, zy1, zy2, zy3, zy4, zy5, zy6, zy7, zy8⟩ := Sy
  have lt_y := blk_lt Hy.out
  go_wp2_with fail
  refine (HY.out _).mono ?_
  rintro e w3 ⟨⟨q, hq, hqs, rfl⟩, hb⟩
  clear qy0 zy0 qy1 zy1 qy2 zy2 qy3 zy3 qy4 zy4 qy5 zy5 qy6 zy6 qy7 zy7 qy8 zy8
  have Hx' := Lib.hid (bblock hb Hx.out); clear Hx; have Hx := Hx'; clear Hx'
  have Hy' := Lib.hid (bblock hb Hy.out); clear Hy; have Hy := Hy'; clear Hy'
  have Hp' := Lib.hid (bblock hb Hp.out); clear Hp; have Hp := Hp'; clear Hp'
  have HB' := below_call HB hb; clear HB hb; have HB := HB'; clear HB'; have hz3 := HB.size
  have lt_x_3 := blk_lt Hx.out
  have lt_y_3 := blk_lt Hy.out
  have lt_p_3 := blk_lt Hp.out
  have Hq := Lib.hid (alloc_new' w3 (.cells #[.int .i64 q.f, .int .i64 q.t, .int .i64 q.pr, .int .i64 q.ttl, .int .i64 q.id, .bool q.df, .bool q.mf, .int .i64 q.off, .string q.s] 26) (w3.heap.size) (by simp))
  have Hx' := Lib.hid (block_alloc Hx.out (.cells #[.int .i64 q.f, .int .i64 q.t, .int .i64 q.pr, .int .i64 q.ttl, .int .i64 q.id, .bool q.df, .bool q.mf, .int .i64 q.off, .string q.s] 26)); clear Hx; have Hx := Hx'; clear Hx'
  have Hy' := Lib.hid (block_alloc Hy.out (.cells #[.int .i64 q.f, .int .i64 q.t, .int .i64 q.pr, .int .i64 q.ttl, .int .i64 q.id, .bool q.df, .bool q.mf, .int .i64 q.off, .string q.s] 26)); clear Hy; have Hy := Hy'; clear Hy'
  have Hp' := Lib.hid (block_alloc Hp.out (.cells #[.int .i64 q.f, .int .i64 q.t, .int .i64 q.pr, .int .i64 q.ttl, .int .i64 q.id, .bool q.df, .bool q.mf, .int .i64 q.off, .string q.s] 26)); clear Hp; have Hp := Hp'; clear Hp'
  have HB' := below_alloc (o := .cells #[.int .i64 q.f, .int .i64 q.t, .int .i64 q.pr, .int .i64 q.ttl, .int .i64 q.id, .bool q.df, .bool q.mf, .int .i64 q.off, .string q.s] 26) HB; clear HB; have HB := HB'; clear HB'
  clear Hx Hy
  obtain ⟨R, hR1, hR2, hRn, HE, HD, HF, HC, HS, HI⟩ := rtFacts p hp
  obtain ⟨R2, -, hR22, -, HE2, -, -, -, -, HI2⟩ := rtFacts q hq
  have hij := rt_same p q hp hq HI.out HI2.out; clear HI HI2
  have Sp := cells9 Hp.out
  obtain ⟨⟨qp0, qp1, qp2, qp3, qp4, qp5, qp6, qp7, qp8⟩, zp0, zp1, zp2, zp3, zp4, zp5, zp6, zp7, zp8⟩ := Sp
  have lt_p := blk_lt Hp.out
  go_wp2_with fail
  refine (HE.out _).mono ?_
  rintro e w4 ⟨rfl, hb⟩
  clear qp0 zp0 qp1 zp1 qp2 zp2 qp3 zp3 qp4 zp4 qp5 zp5 qp6 zp6 qp7 zp7 qp8 zp8
  have Hp' := Lib.hid (bblock hb Hp.out); clear Hp; have Hp := Hp'; clear Hp'
  have Hq' := Lib.hid (bblock hb Hq.out); clear Hq; have Hq := Hq'; clear Hq'
  have HB' := below_call HB hb; clear HB hb; have HB := HB'; clear HB'; have hz4 := HB.size
  have lt_p_4 := blk_lt Hp.out
  have lt_q_4 := blk_lt Hq.out
  have Sq := cells9 Hq.out
  obtain ⟨⟨qq0, qq1, qq2, qq3, qq4, qq5, qq6, qq7, qq8⟩, zq0, zq1, zq2, zq3, zq4, zq5, zq6, zq7, zq8⟩ := Sq
  have lt_q := blk_lt Hq.out
  go_wp2_with fail
  refine (HE2.out _).mono ?_
  rintro e w5 ⟨rfl, hb⟩
  clear qq0 zq0 qq1 zq1 qq2 zq2 qq3 zq3 qq4 zq4 qq5 zq5 qq6 zq6 qq7 zq7 qq8 zq8
  have Hp' := Lib.hid (bblock hb Hp.out); clear Hp; have Hp := Hp'; clear Hp'
  have Hq' := Lib.hid (bblock hb Hq.out); clear Hq; have Hq := Hq'; clear Hq'
  have HB' := below_call HB hb; clear HB hb; have HB := HB'; clear HB'; have hz5 := HB.size
  have lt_p_5 := blk_lt Hp.out
  have lt_q_5 := blk_lt Hq.out
  go_wp2_with fail
  refine (HD.out _).mono ?_
  rintro e w6 ⟨rfl, hb⟩
  have Hp' := Lib.hid (bblock hb Hp.out); clear Hp; have Hp := Hp'; clear Hp'
  have Hq' := Lib.hid (bblock hb Hq.out); clear Hq; have Hq := Hq'; clear Hq'
  have HB' := below_call HB hb; clear HB hb; have HB := HB'; clear HB'; have hz6 := HB.size
  have lt_p_6 := blk_lt Hp.out
  have lt_q_6 := blk_lt Hq.out
  have Hb := Lib.hid (alloc_new' w6 (.cells #[.int .i64 p.f, .int .i64 p.t, .int .i64 p.pr, .int .i64 p.ttl, .int .i64 p.id, .bool p.df, .bool p.mf, .int .i64 p.off, .string p.s] 26) (w6.heap.size) (by simp))
  have Hp' := Lib.hid (block_alloc Hp.out (.cells #[.int .i64 p.f, .int .i64 p.t, .int .i64 p.pr, .int .i64 p.ttl, .int .i64 p.id, .bool p.df, .bool p.mf, .int .i64 p.off, .string p.s] 26)); clear Hp; have Hp := Hp'; clear Hp'
  have Hq' := Lib.hid (block_alloc Hq.out (.cells #[.int .i64 p.f, .int .i64 p.t, .int .i64 p.pr, .int .i64 p.ttl, .int .i64 p.id, .bool p.df, .bool p.mf, .int .i64 p.off, .string p.s] 26)); clear Hq; have Hq := Hq'; clear Hq'
  have HB' := below_alloc (o := .cells #[.int .i64 p.f, .int .i64 p.t, .int .i64 p.pr, .int .i64 p.ttl, .int .i64 p.id, .bool p.df, .bool p.mf, .int .i64 p.off, .string p.s] 26) HB; clear HB; have HB := HB'; clear HB'
  have HQ := Lib.hid (eqPk p q); have HPP := Lib.hid (eqPk p p)
  go_upto_region 7 with fail
  go_cut [82] (fun s82 wx => s82 = .bool false ∧ wx.heap[w2.heap.size]? = some (.cells #[.int .i64 p.f, .int .i64 p.t, .int .i64 p.pr, .int .i64 p.ttl, .int .i64 p.id, .bool p.df, .bool p.mf, .int .i64 p.off, .string p.s] 26) ∧ Below w.heap.size w wx)
  case first =>
    have Sp := cells9 Hp.out
    obtain ⟨⟨qp0, qp1, qp2, qp3, qp4, qp5, qp6, qp7, qp8⟩, zp0, zp1, zp2, zp3, zp4, zp5, zp6, zp7, zp8⟩ := Sp
    have lt_p := blk_lt Hp.out
    have Sq := cells9 Hq.out
    obtain ⟨⟨qq0, qq1, qq2, qq3, qq4, qq5, qq6, qq7, qq8⟩, zq0, zq1, zq2, zq3, zq4, zq5, zq6, zq7, zq8⟩ := Sq
    have lt_q := blk_lt Hq.out
    have Sb := cells9 Hb.out
    obtain ⟨⟨qb0, qb1, qb2, qb3, qb4, qb5, qb6, qb7, qb8⟩, zb0, zb1, zb2, zb3, zb4, zb5, zb6, zb7, zb8⟩ := Sb
    have lt_b := blk_lt Hb.out
    have hqo := HQ.out; have hpo := HPP.out
    have hln : ((R.length : Int) != 20 + (p.s.size : Int)) = false := hRn.out
    have hwr : IntKind.i64.wrap (20 + (p.s.size : Int)) = 20 + (p.s.size : Int) := IntWalk.i64_in _ (by omega)
    generalize pkEqB p p = bpp at *
    obtain ⟨hb1, hb2⟩ := hij
    subst hb1
    rcases hb2 with ⟨e1, e2⟩ | ⟨e1, e2⟩
    all_goals
      rw [e1] at hqo
      go_wp2_with fail
      go_meet
      exact ⟨rfl, Hp.out, HB⟩
  case rest =>
    clear HB Hp Hq Hb hij HQ HPP
    obtain ⟨rfl, Hp, HB⟩ := hcut
    have Hp := Lib.hid Hp
    have hkb := pick_lt at_ 20 (by omega)
    have hdb := pick_lt by_ 255 (by omega)
    have hnb := pick_lt at_ ((p.s.size : Int) + 1) (by omega)
    have HK := Lib.hid fun w => pick_any at_ 20 w hat.1 hat.2 (by omega) (by omega)
    have HN := Lib.hid fun w => pick_any at_ ((p.s.size : Int) + 1) w hat.1 hat.2 (by omega) (by omega)
    have HDD := Lib.hid fun w => pick_any by_ 255 w hby.1 hby.2 (by omega) (by omega)
    obtain ⟨k, hk⟩ := Int.eq_ofNat_of_zero_le hkb.1
    obtain ⟨d, hd⟩ := Int.eq_ofNat_of_zero_le hdb.1
    obtain ⟨j, hj⟩ := Int.eq_ofNat_of_zero_le hnb.1
    rw [hk] at hkb HK; rw [hd] at hdb HDD; rw [hj] at hnb HN
    clear hk hd hj
    go_wp2_with fail
    refine (HK.out _).mono ?_
    rintro e w' ⟨rfl, rfl⟩
    go_upto_region 10 with fail
    have hkn : k < R.length := by omega
    have b1 : (0 : Int) ≤ (k : Int) := by omega
    have b2 : (k : Int) < (R.length : Int) := by omega
    have b3 : (k : Int) ≤ (R.length : Int) := by omega
    have b4 : (k : Int) + 1 ≤ (R.length : Int) := by omega
    have b5 : (0 : Int) ≤ (k : Int) + 1 := by omega
    have b6 : IntKind.i64.wrap ((k : Int) + 1) = (k : Int) + 1 := IntWalk.i64_in _ (by omega)
    have b7 : ((k : Int) + 1).toNat = k + 1 := by omega
    have b8 : IntKind.i64.wrap (1 + (d : Int)) = 1 + (d : Int) := IntWalk.i64_in _ (by omega)
    have b9 : IntKind.u8.wrap (1 + (d : Int)) = 1 + (d : Int) := wrap_u8 _ (by omega) (by omega)
    have hcv := conv_one
    go_cut [19] (fun s19 wx => ∃ O : ByteArray, s19 = .string O ∧ Bad O ∧ wx.heap[w2.heap.size]? = some (.cells #[.int .i64 p.f, .int .i64 p.t, .int .i64 p.pr, .int .i64 p.ttl, .int .i64 p.id, .bool p.df, .bool p.mf, .int .i64 p.off, .string p.s] 26) ∧ Below w.heap.size w wx)
    case first =>
      go_region_with ((go_at_call 15; refine (HDD.out _).mono ?_; rintro e w5 ⟨rfl, rfl⟩))
      all_goals
        go_wp2_with fail
        go_meet
        exact ⟨_, rfl, HF.out _ k hkn (by omega) (xor_ne _ d (by omega)), by first | exact block_alloc Hp.out _ | exact block_alloc (W := World.drew _) Hp.out _, by repeat (first | exact HB | apply Below.drew | apply below_alloc)⟩
    case rest =>
      clear HB Hp b1 b2 b4 b5 b6 b7 b8 b9 hcv HF
      obtain ⟨O, rfl, hO, Hp, HB⟩ := hcut
      have Hp := Lib.hid Hp
      go_wp2_with fail
      refine (Decode_bad_pk O _ hO).mono ?_
      rintro e w7 ⟨rfl, hb⟩
      have Hp' := Lib.hid (bblock hb Hp.out); clear Hp; have Hp := Hp'; clear Hp'
      have HB' := below_call HB hb; clear HB hb; have HB := HB'; clear HB'; have hz7 := HB.size
      have lt_p_7 := blk_lt Hp.out
      have Hp' := Lib.hid (block_alloc Hp.out (.cells #[.int .i64 0, .int .i64 0, .int .i64 0, .int .i64 0, .int .i64 0, .bool false, .bool false, .int .i64 0, .string ⟨#[]⟩] 26)); clear Hp; have Hp := Hp'; clear Hp'
      have HB' := below_alloc (o := .cells #[.int .i64 0, .int .i64 0, .int .i64 0, .int .i64 0, .int .i64 0, .bool false, .bool false, .int .i64 0, .string ⟨#[]⟩] 26) HB; clear HB; have HB := HB'; clear HB'
      go_wp2_with fail
      refine (DecodeHeader_bad_pk O _ hO).mono ?_
      rintro e w8 ⟨rfl, hb⟩
      have Hp' := Lib.hid (bblock hb Hp.out); clear Hp; have Hp := Hp'; clear Hp'
      have HB' := below_call HB hb; clear HB hb; have HB := HB'; clear HB'; have hz8 := HB.size
      have lt_p_8 := blk_lt Hp.out
      have Hp' := Lib.hid (block_alloc Hp.out (.cells #[.int .i64 0, .int .i64 0, .int .i64 0, .int .i64 0, .int .i64 0, .bool false, .bool false, .int .i64 0, .string ⟨#[]⟩] 26)); clear Hp; have Hp := Hp'; clear Hp'
      have HB' := below_alloc (o := .cells #[.int .i64 0, .int .i64 0, .int .i64 0, .int .i64 0, .int .i64 0, .bool false, .bool false, .int .i64 0, .string ⟨#[]⟩] 26) HB; clear HB; have HB := HB'; clear HB'
      have qp8 := (cell_of_block (k := 8) Hp.out rfl).1; have zp8 := (cell_of_block (k := 8) Hp.out rfl).2
      have lt_p := blk_lt Hp.out
      go_wp2_with fail
      refine (HN.out _).mono ?_
      rintro e w' ⟨rfl, rfl⟩
      have c3 : (20 + (j : Int)) ≤ (R.length : Int) := by have := hRn.out; rw [bne_eq_false_iff_eq] at this; omega
      have c4 : (20 + (j : Int)).toNat = 20 + j := by omega
      have c5 : 20 + j ≤ R.length := by omega
      go_wp2_with fail
      clear qp8 zp8 lt_p
      refine (HC.out j (by omega) _).mono ?_
      rintro e w9 ⟨rfl, hb⟩
      have Hp' := Lib.hid (bblock hb Hp.out); clear Hp; have Hp := Hp'; clear Hp'
      have HB' := below_call HB hb; clear HB hb; have HB := HB'; clear HB'; have hz9 := HB.size
      have lt_p_9 := blk_lt Hp.out
      have Hc := Lib.hid (alloc_new' w9 (.cells #[.int .i64 p.f, .int .i64 p.t, .int .i64 p.pr, .int .i64 p.ttl, .int .i64 p.id, .bool p.df, .bool p.mf, .int .i64 p.off, .string (p.s.extract 0 j)] 26) (w9.heap.size) (by simp))
      have Hp' := Lib.hid (block_alloc Hp.out (.cells #[.int .i64 p.f, .int .i64 p.t, .int .i64 p.pr, .int .i64 p.ttl, .int .i64 p.id, .bool p.df, .bool p.mf, .int .i64 p.off, .string (p.s.extract 0 j)] 26)); clear Hp; have Hp := Hp'; clear Hp'
      have HB' := below_alloc (o := .cells #[.int .i64 p.f, .int .i64 p.t, .int .i64 p.pr, .int .i64 p.ttl, .int .i64 p.id, .bool p.df, .bool p.mf, .int .i64 p.off, .string (p.s.extract 0 j)] 26) HB; clear HB; have HB := HB'; clear HB'
      have Sp := cells9 Hp.out
      obtain ⟨⟨qp0, qp1, qp2, qp3, qp4, qp5, qp6, qp7, qp8⟩, zp0, zp1, zp2, zp3, zp4, zp5, zp6, zp7, zp8⟩ := Sp
      have lt_p := blk_lt Hp.out
      have d1 : (j : Int) ≤ (p.s.size : Int) := by omega
      have d2 : (20 + (j : Int) - 20) = (j : Int) := by omega
      go_wp2_with fail
      clear qp0 zp0 qp1 zp1 qp2 zp2 qp3 zp3 qp4 zp4 qp5 zp5 qp6 zp6 qp7 zp7 qp8 zp8
      have Hv := Lib.hid (alloc_new' (w9.alloc (.cells #[.int .i64 p.f, .int .i64 p.t, .int .i64 p.pr, .int .i64 p.ttl, .int .i64 p.id, .bool p.df, .bool p.mf, .int .i64 p.off, .string (p.s.extract 0 j)] 26)) (.cells #[.int .i64 p.f, .int .i64 p.t, .int .i64 p.pr, .int .i64 p.ttl, .int .i64 p.id, .bool p.df, .bool p.mf, .int .i64 p.off, .string (p.s.extract 0 j)] 26) (w9.heap.size + 1) (by simp))
      have Hp' := Lib.hid (block_alloc Hp.out (.cells #[.int .i64 p.f, .int .i64 p.t, .int .i64 p.pr, .int .i64 p.ttl, .int .i64 p.id, .bool p.df, .bool p.mf, .int .i64 p.off, .string (p.s.extract 0 j)] 26)); clear Hp; have Hp := Hp'; clear Hp'
      have Hc' := Lib.hid (block_alloc Hc.out (.cells #[.int .i64 p.f, .int .i64 p.t, .int .i64 p.pr, .int .i64 p.ttl, .int .i64 p.id, .bool p.df, .bool p.mf, .int .i64 p.off, .string (p.s.extract 0 j)] 26)); clear Hc; have Hc := Hc'; clear Hc'
      have HB' := below_alloc (o := .cells #[.int .i64 p.f, .int .i64 p.t, .int .i64 p.pr, .int .i64 p.ttl, .int .i64 p.id, .bool p.df, .bool p.mf, .int .i64 p.off, .string (p.s.extract 0 j)] 26) HB; clear HB; have HB := HB'; clear HB'
      refine (DecodeHeader_bad_pk _ _ (HS.out k (by omega))).mono ?_
      rintro e w10 ⟨rfl, hb⟩
      have Hp' := Lib.hid (bblock hb Hp.out); clear Hp; have Hp := Hp'; clear Hp'
      have Hc' := Lib.hid (bblock hb Hc.out); clear Hc; have Hc := Hc'; clear Hc'
      have Hv' := Lib.hid (bblock hb Hv.out); clear Hv; have Hv := Hv'; clear Hv'
      have HB' := below_call HB hb; clear HB hb; have HB := HB'; clear HB'; have hz10 := HB.size
      have lt_p_10 := blk_lt Hp.out
      have lt_c_10 := blk_lt Hc.out
      have lt_v_10 := blk_lt Hv.out
      have Hp' := Lib.hid (block_alloc Hp.out (.cells #[.int .i64 0, .int .i64 0, .int .i64 0, .int .i64 0, .int .i64 0, .bool false, .bool false, .int .i64 0, .string ⟨#[]⟩] 26)); clear Hp; have Hp := Hp'; clear Hp'
      have Hc' := Lib.hid (block_alloc Hc.out (.cells #[.int .i64 0, .int .i64 0, .int .i64 0, .int .i64 0, .int .i64 0, .bool false, .bool false, .int .i64 0, .string ⟨#[]⟩] 26)); clear Hc; have Hc := Hc'; clear Hc'
      have Hv' := Lib.hid (block_alloc Hv.out (.cells #[.int .i64 0, .int .i64 0, .int .i64 0, .int .i64 0, .int .i64 0, .bool false, .bool false, .int .i64 0, .string ⟨#[]⟩] 26)); clear Hv; have Hv := Hv'; clear Hv'
      have HB' := below_alloc (o := .cells #[.int .i64 0, .int .i64 0, .int .i64 0, .int .i64 0, .int .i64 0, .bool false, .bool false, .int .i64 0, .string ⟨#[]⟩] 26) HB; clear HB; have HB := HB'; clear HB'
      have Sc := cells9 Hc.out
      obtain ⟨⟨qc0, qc1, qc2, qc3, qc4, qc5, qc6, qc7, qc8⟩, zc0, zc1, zc2, zc3, zc4, zc5, zc6, zc7, zc8⟩ := Sc
      have lt_c := blk_lt Hc.out
      have Sv := cells9 Hv.out
      obtain ⟨⟨qv0, qv1, qv2, qv3, qv4, qv5, qv6, qv7, qv8⟩, zv0, zv1, zv2, zv3, zv4, zv5, zv6, zv7, zv8⟩ := Sv
      have lt_v := blk_lt Hv.out
      go_wp2_with fail
      go_ret
      exact ⟨rfl, HB⟩
end Go.Proofs.Ytabfihknhbfjeaa.Ip
