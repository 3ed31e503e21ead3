/-
  The walk of the law IPInFrame.
-/
import Derived.Test.YtpiohahfdekmhaaDoorLaw06r
import Derived.Test.YtpiohahfdekmhaaDoorLkFacts
import Derived.Deep.DeepCutAuto
import Derived.Outline
import Derived.Deep.RegionHeld3
namespace Go.Proofs.YtpiohahfdekmhaaDoor.Ip
open Go.RowKit Go.Proofs.YtpiohahfdekmhaaDoor.Wire Go.Proofs.YtpiohahfdekmhaaDoor.Gen

theorem shl_bit (d : Nat) (h : d < 8) : ∃ m : Nat, (1 ≤ m ∧ m ≤ 255) ∧ IntKind.u8.wrap (2 ^ d) = (m : Int) := by
  match d, h with
  | 0, _ => exact ⟨1, by omega, by decide⟩
  | 1, _ => exact ⟨2, by omega, by decide⟩
  | 2, _ => exact ⟨4, by omega, by decide⟩
  | 3, _ => exact ⟨8, by omega, by decide⟩
  | 4, _ => exact ⟨16, by omega, by decide⟩
  | 5, _ => exact ⟨32, by omega, by decide⟩
  | 6, _ => exact ⟨64, by omega, by decide⟩
  | 7, _ => exact ⟨128, by omega, by decide⟩
set_option maxRecDepth 100000 in
set_option maxHeartbeats 4000000 in
theorem fr_walk (x0 x1 x2 x3 x4 x5 x6 x7 to_ fm_ at_ bit_ : Int) (xs : ByteArray) (w : World) (a0 : Addr) (hg : Lk.Gl w a0) (hto : In64 to_) (hfm : In64 fm_) (hat : In64 at_) (hbit : In64 bit_)
    (HX : Hid (∀ w, Calls Tryd.prog 5 #[.agg #[.int .i64 x0, .int .i64 x1, .int .i64 x2, .int .i64 x3, .int .i64 x4, .int .i64 x5, .int .i64 x6, .int .i64 x7, .string xs]] w fun e w' => (∃ p : Pk, p.ok ∧ p.s.size ≤ 300 ∧ e = .returned (.agg #[.int .i64 p.f, .int .i64 p.t, .int .i64 p.pr, .int .i64 p.ttl, .int .i64 p.id, .bool p.df, .bool p.mf, .int .i64 p.off, .string p.s])) ∧ Below w.heap.size w w')) :
    Calls Tryd.prog 3 #[.agg #[.int .i64 x0, .int .i64 x1, .int .i64 x2, .int .i64 x3, .int .i64 x4, .int .i64 x5, .int .i64 x6, .int .i64 x7, .string xs], .int .i64 to_, .int .i64 fm_, .int .i64 at_, .int .i64 bit_] w fun e w' => e = .returned (.bool true) ∧ Below w.heap.size w w' := by
  have HG := Lib.hid hg; clear hg
  go_enter Tryd.func3, Tryd.ntmps3
  have HB := Below.refl w.heap.size w
  have Hx := Lib.hid (alloc_new' w (.cells #[.int .i64 x0, .int .i64 x1, .int .i64 x2, .int .i64 x3, .int .i64 x4, .int .i64 x5, .int .i64 x6, .int .i64 x7, .string xs] 23) (w.heap.size) (by simp))
  have HB' := below_alloc (o := .cells #[.int .i64 x0, .int .i64 x1, .int .i64 x2, .int .i64 x3, .int .i64 x4, .int .i64 x5, .int .i64 x6, .int .i64 x7, .string xs] 23) HB; clear HB; have HB := HB'; clear HB'
  go_wp2_with fail
  refine (sane_any _).mono ?_
  rintro e w1 ⟨rfl, hb⟩
  have Hx' := Lib.hid (bblock hb Hx.out); clear Hx; have Hx := Hx'; clear Hx'
  have HB' := below_call HB hb; clear HB hb; have HB := HB'; clear HB'; have hz1 := HB.size
  have lt_x_1 := blk_lt Hx.out
  have Sx := cells9 Hx.out
  obtain ⟨⟨qx0, qx1, qx2, qx3, qx4, qx5, qx6, qx7, qx8⟩, zx0, zx1, zx2, zx3, zx4, zx5, zx6, zx7, zx8⟩ := Sx
  have lt_x := blk_lt Hx.out
  go_wp2_with fail
  refine (HX.out _).mono ?_
  rintro e w2 ⟨⟨p, hp, hps, rfl⟩, hb⟩
  clear qx0 zx0 qx1 zx1 qx2 zx2 qx3 zx3 qx4 zx4 qx5 zx5 qx6 zx6 qx7 zx7 qx8 zx8
  have Hx' := Lib.hid (bblock hb Hx.out); clear Hx; have Hx := Hx'; clear Hx'
  have HB' := below_call HB hb; clear HB hb; have HB := HB'; clear HB'; have hz2 := HB.size
  have lt_x_2 := blk_lt Hx.out
  have Hp := Lib.hid (alloc_new' w2 (.cells #[.int .i64 p.f, .int .i64 p.t, .int .i64 p.pr, .int .i64 p.ttl, .int .i64 p.id, .bool p.df, .bool p.mf, .int .i64 p.off, .string p.s] 26) (w2.heap.size) (by simp))
  have Hx' := Lib.hid (block_alloc Hx.out (.cells #[.int .i64 p.f, .int .i64 p.t, .int .i64 p.pr, .int .i64 p.ttl, .int .i64 p.id, .bool p.df, .bool p.mf, .int .i64 p.off, .string p.s] 26)); clear Hx; have Hx := Hx'; clear Hx'
  have HB' := below_alloc (o := .cells #[.int .i64 p.f, .int .i64 p.t, .int .i64 p.pr, .int .i64 p.ttl, .int .i64 p.id, .bool p.df, .bool p.mf, .int .i64 p.off, .string p.s] 26) HB; clear HB; have HB := HB'; clear HB'
  clear Hx
  obtain ⟨R, hR1, hR2, hRn, HE, HD, -, -, -, HI⟩ := rtFacts p hp
  have hRl : R.length = 20 + p.s.size := by have := hRn.out; rw [bne_eq_false_iff_eq] at this; omega
  have hPP := (rt_same p p hp hp HI.out HI.out).1; clear HI hRn
  have HPP := Lib.hid (eqPk p p)
  have Sp := cells9 Hp.out
  obtain ⟨⟨qp0, qp1, qp2, qp3, qp4, qp5, qp6, qp7, qp8⟩, zp0, zp1, zp2, zp3, zp4, zp5, zp6, zp7, zp8⟩ := Sp
  have lt_p := blk_lt Hp.out
  go_wp2_with fail
  refine (HE.out _).mono ?_
  rintro e w3 ⟨rfl, hb⟩
  clear qp0 zp0 qp1 zp1 qp2 zp2 qp3 zp3 qp4 zp4 qp5 zp5 qp6 zp6 qp7 zp7 qp8 zp8
  have Hp' := Lib.hid (bblock hb Hp.out); clear Hp; have Hp := Hp'; clear Hp'
  have HB' := below_call HB hb; clear HB hb; have HB := HB'; clear HB'; have hz3 := HB.size
  have lt_p_3 := blk_lt Hp.out
  have t1b := pick_lt to_ 65535 (by omega)
  have t2b := pick_lt fm_ 65534 (by omega)
  have HT1 := Lib.hid fun w => pick_any to_ 65535 w hto.1 hto.2 (by omega) (by omega)
  have HT2 := Lib.hid fun w => pick_any fm_ 65534 w hfm.1 hfm.2 (by omega) (by omega)
  generalize pick to_ 65535 = t1 at *
  generalize pick fm_ 65534 = t2 at *
  have hok : Lk.FrOk (1 + t1) (1 + t2) 2 R.length := ⟨by omega, by omega, .inr rfl, by omega⟩
  have HOK := Lib.hid hok; clear hok
  have h1w : IntKind.i64.wrap (1 + t1) = 1 + t1 := IntWalk.i64_in _ (by omega)
  have h2w : IntKind.i64.wrap (1 + t2) = 1 + t2 := IntWalk.i64_in _ (by omega)
  go_wp2_with fail
  refine (HT1.out _).mono ?_
  rintro e w' ⟨rfl, rfl⟩
  go_wp2_with fail
  refine (HT2.out _).mono ?_
  rintro e w' ⟨rfl, rfl⟩
  have Hf := Lib.hid (alloc_new' w3 (.cells #[.int .i64 (1 + t1), .int .i64 (1 + t2), .int .i64 2, .string ⟨R.toArray⟩] 33) (w3.heap.size) (by simp))
  have Hp' := Lib.hid (block_alloc Hp.out (.cells #[.int .i64 (1 + t1), .int .i64 (1 + t2), .int .i64 2, .string ⟨R.toArray⟩] 33)); clear Hp; have Hp := Hp'; clear Hp'
  have HB' := below_alloc (o := .cells #[.int .i64 (1 + t1), .int .i64 (1 + t2), .int .i64 2, .string ⟨R.toArray⟩] 33) HB; clear HB; have HB := HB'; clear HB'
  have Sf := cells4 Hf.out
  obtain ⟨⟨qf0, qf1, qf2, qf3⟩, zf0, zf1, zf2, zf3⟩ := Sf
  have lt_f := blk_lt Hf.out
  go_wp2_with fail
  refine (Lk.encode_fr _ _ _ R _ a0 (HG.out.below HB) HOK.out).mono ?_
  rintro e w4 ⟨rfl, hb⟩
  clear qf0 zf0 qf1 zf1 qf2 zf2 qf3 zf3
  have Hp' := Lib.hid (bblock hb Hp.out); clear Hp; have Hp := Hp'; clear Hp'
  have Hf' := Lib.hid (bblock hb Hf.out); clear Hf; have Hf := Hf'; clear Hf'
  have HB' := below_call HB hb; clear HB hb; have HB := HB'; clear HB'; have hz4 := HB.size
  have lt_p_4 := blk_lt Hp.out
  have lt_f_4 := blk_lt Hf.out
  have hTl := Lk.fenc_length (1 + t1) (1 + t2) 2 R
  have HDF := Lib.hid fun W (hg : Lk.Gl W a0) => Lk.decode_fr (1 + t1) (1 + t2) 2 R W a0 hg HOK.out
  have HFL := Lib.hid fun k v W (hg : Lk.Gl W a0) hk hv => Lk.decode_flip (1 + t1) (1 + t2) 2 R k v W a0 hg HOK.out hk hv
  generalize Lk.fenc (1 + t1) (1 + t2) 2 R = T at *
  have hT1 : 31 ≤ T.length := by omega
  have hT2 : T.length ≤ 400 := by omega
  clear hTl hRl
  go_wp2_with fail
  refine (HDF.out _ (HG.out.below HB)).mono ?_
  rintro e w5 ⟨rfl, hb⟩
  have Hp' := Lib.hid (bblock hb Hp.out); clear Hp; have Hp := Hp'; clear Hp'
  have Hf' := Lib.hid (bblock hb Hf.out); clear Hf; have Hf := Hf'; clear Hf'
  have HB' := below_call HB hb; clear HB hb; have HB := HB'; clear HB'; have hz5 := HB.size
  have lt_p_5 := blk_lt Hp.out
  have lt_f_5 := blk_lt Hf.out
  have Hr := Lib.hid (alloc_new' w5 (.cells #[.int .i64 (1 + t1), .int .i64 (1 + t2), .int .i64 2, .string ⟨R.toArray⟩] 33) (w5.heap.size) (by simp))
  have Hp' := Lib.hid (block_alloc Hp.out (.cells #[.int .i64 (1 + t1), .int .i64 (1 + t2), .int .i64 2, .string ⟨R.toArray⟩] 33)); clear Hp; have Hp := Hp'; clear Hp'
  have Hf' := Lib.hid (block_alloc Hf.out (.cells #[.int .i64 (1 + t1), .int .i64 (1 + t2), .int .i64 2, .string ⟨R.toArray⟩] 33)); clear Hf; have Hf := Hf'; clear Hf'
  have HB' := below_alloc (o := .cells #[.int .i64 (1 + t1), .int .i64 (1 + t2), .int .i64 2, .string ⟨R.toArray⟩] 33) HB; clear HB; have HB := HB'; clear HB'
  have Sr := cells4 Hr.out
  obtain ⟨⟨qr0, qr1, qr2, qr3⟩, zr0, zr1, zr2, zr3⟩ := Sr
  have lt_r := blk_lt Hr.out
  go_wp2_with fail
  refine (HD.out _).mono ?_
  rintro e w6 ⟨rfl, hb⟩
  clear qr0 zr0 qr1 zr1 qr2 zr2 qr3 zr3
  have Hp' := Lib.hid (bblock hb Hp.out); clear Hp; have Hp := Hp'; clear Hp'
  have Hf' := Lib.hid (bblock hb Hf.out); clear Hf; have Hf := Hf'; clear Hf'
  have Hr' := Lib.hid (bblock hb Hr.out); clear Hr; have Hr := Hr'; clear Hr'
  have HB' := below_call HB hb; clear HB hb; have HB := HB'; clear HB'; have hz6 := HB.size
  have lt_p_6 := blk_lt Hp.out
  have lt_f_6 := blk_lt Hf.out
  have lt_r_6 := blk_lt Hr.out
  have Hb := Lib.hid (alloc_new' w6 (.cells #[.int .i64 p.f, .int .i64 p.t, .int .i64 p.pr, .int .i64 p.ttl, .int .i64 p.id, .bool p.df, .bool p.mf, .int .i64 p.off, .string p.s] 26) (w6.heap.size) (by simp))
  have Hp' := Lib.hid (block_alloc Hp.out (.cells #[.int .i64 p.f, .int .i64 p.t, .int .i64 p.pr, .int .i64 p.ttl, .int .i64 p.id, .bool p.df, .bool p.mf, .int .i64 p.off, .string p.s] 26)); clear Hp; have Hp := Hp'; clear Hp'
  have Hf' := Lib.hid (block_alloc Hf.out (.cells #[.int .i64 p.f, .int .i64 p.t, .int .i64 p.pr, .int .i64 p.ttl, .int .i64 p.id, .bool p.df, .bool p.mf, .int .i64 p.off, .string p.s] 26)); clear Hf; have Hf := Hf'; clear Hf'
  have Hr' := Lib.hid (block_alloc Hr.out (.cells #[.int .i64 p.f, .int .i64 p.t, .int .i64 p.pr, .int .i64 p.ttl, .int .i64 p.id, .bool p.df, .bool p.mf, .int .i64 p.off, .string p.s] 26)); clear Hr; have Hr := Hr'; clear Hr'
  have HB' := below_alloc (o := .cells #[.int .i64 p.f, .int .i64 p.t, .int .i64 p.pr, .int .i64 p.ttl, .int .i64 p.id, .bool p.df, .bool p.mf, .int .i64 p.off, .string p.s] 26) HB; clear HB; have HB := HB'; clear HB'
  have hT0 : ((T.length : Int) == 0) = false := by rw [beq_eq_false_iff_ne]; omega
  have hpo := HPP.out
  generalize pkEqB p p = bpp at *
  subst hPP
  have HK := Lib.hid fun w => pick_any at_ (T.length : Int) w hat.1 hat.2 (by omega) (by omega)
  have hkb := pick_lt at_ (T.length : Int) (by omega)
  generalize pick at_ (T.length : Int) = kk at *
  obtain ⟨k, rfl⟩ := Int.eq_ofNat_of_zero_le hkb.1
  clear HT1 HT2 HX
  have Sp := cells9 Hp.out
  obtain ⟨⟨qp0, qp1, qp2, qp3, qp4, qp5, qp6, qp7, qp8⟩, zp0, zp1, zp2, zp3, zp4, zp5, zp6, zp7, zp8⟩ := Sp
  have lt_p := blk_lt Hp.out
  have Sf := cells4 Hf.out
  obtain ⟨⟨qf0, qf1, qf2, qf3⟩, zf0, zf1, zf2, zf3⟩ := Sf
  have lt_f := blk_lt Hf.out
  have Sr := cells4 Hr.out
  obtain ⟨⟨qr0, qr1, qr2, qr3⟩, zr0, zr1, zr2, zr3⟩ := Sr
  have lt_r := blk_lt Hr.out
  have Sb := cells9 Hb.out
  obtain ⟨⟨qb0, qb1, qb2, qb3, qb4, qb5, qb6, qb7, qb8⟩, zb0, zb1, zb2, zb3, zb4, zb5, zb6, zb7, zb8⟩ := Sb
  have lt_b := blk_lt Hb.out
  go_wp2_with fail
  refine (HK.out _).mono ?_
  rintro e w' ⟨rfl, rfl⟩
  go_upto_region 11 with fail
  have Hp := Hp
  have Hf := Hf
  have Hr := Hr
  clear qp0 qp1 qp2 qp3 qp4 qp5 qp6 qp7 qp8 zp0 zp1 zp2 zp3 zp4 zp5 zp6 zp7 zp8 qb0 qb1 qb2 qb3 qb4 qb5 qb6 qb7 qb8 zb0 zb1 zb2 zb3 zb4 zb5 zb6 zb7 zb8 qf0 qf1 qf2 qf3 zf0 zf1 zf2 zf3 qr0 qr1 qr2 qr3 zr0 zr1 zr2 zr3 Hp Hb hpo HPP hT0 hat hto hfm
  have HD8 := Lib.hid fun w => pick_any bit_ 8 w hbit.1 hbit.2 (by omega) (by omega)
  have hd8 := pick_lt bit_ 8 (by omega)
  generalize pick bit_ 8 = dd at *
  obtain ⟨d, rfl⟩ := Int.eq_ofNat_of_zero_le hd8.1
  obtain ⟨m, hm, hsh⟩ := shl_bit d (by omega)
  have hkn : k < T.length := by omega
  have b1 : (0 : Int) ≤ (k : Int) := by omega
  have b2 : (k : Int) < (T.length : Int) := by omega
  have b3 : (k : Int) ≤ (T.length : Int) := by omega
  have b4 : (k : Int) + 1 ≤ (T.length : Int) := by omega
  have b5 : (0 : Int) ≤ (k : Int) + 1 := by omega
  have b6 : IntKind.i64.wrap ((k : Int) + 1) = (k : Int) + 1 := IntWalk.i64_in _ (by omega)
  have b7 : ((k : Int) + 1).toNat = k + 1 := by omega
  have z1 : ¬ 9223372036854775807 < min k T.length + 1 := by omega
  have z2 : ¬ 9223372036854775807 < min k T.length + 1 + (T.length - (k + 1)) := by omega
  have hcv := conv_one
  generalize w6.alloc (.cells #[.int .i64 p.f, .int .i64 p.t, .int .i64 p.pr, .int .i64 p.ttl, .int .i64 p.id, .bool p.df, .bool p.mf, .int .i64 p.off, .string p.s] 26) = wo at *
  have HDF2 : Hid (∀ (v : UInt8) W, v ≠ T[k] → Below (wo).heap.size (wo) W → Calls Tryd.prog 9 #[.string ((⟨T.toArray⟩ : ByteArray).extract 0 k ++ ⟨#[v]⟩ ++ (⟨T.toArray⟩ : ByteArray).extract (k + 1) T.length)] W fun e w' => e = .returned (.tuple #[.agg #[.int .i64 0, .int .i64 0, .int .i64 0, .string ⟨#[]⟩], .int .i64 40]) ∧ Below W.heap.size W w') := Lib.hid fun v W hv hW => by
    rw [flip_argI T k hkn]
    exact HFL.out k v W ((HG.out.below HB).below hW) hkn hv
  clear lt_p lt_f lt_r lt_b
  go_cut [24] (fun s24 wx => s24 = .int .i64 40 ∧ wx.heap[w3.heap.size]? = some (.cells #[.int .i64 (1 + t1), .int .i64 (1 + t2), .int .i64 2, .string ⟨R.toArray⟩] 33) ∧ wx.heap[w5.heap.size]? = some (.cells #[.int .i64 (1 + t1), .int .i64 (1 + t2), .int .i64 2, .string ⟨R.toArray⟩] 33) ∧ Below w.heap.size w wx)
  case first =>
    have HR0 := Below.refl (wo).heap.size (wo)
    go_region_with (first | (go_at_call 9; refine (HDF2.out _ _ (Lk.xor_away _ m hm.1 hm.2) (by repeat (first | exact HR0 | apply Below.drew | apply below_alloc))).mono ?_; rintro e w7 ⟨rfl, hb7⟩; first | (have u := bblock (b := wo.heap.size) (o := .cells #[.int .i64 0, .int .i64 0, .int .i64 0, .string ⟨#[]⟩] 33 (0, 0)) hb7 (block_alloc (alloc_new wo (.cells #[.int .i64 0, .int .i64 0, .int .i64 0, .string ⟨#[]⟩] 33)) _); obtain ⟨⟨u0, u1, u2, u3⟩, y0, y1, y2, y3⟩ := cells4 u) | (have u := bblock (b := wo.heap.size + 1) (o := .cells #[.int .i64 0, .int .i64 0, .int .i64 0, .string ⟨#[]⟩] 33 (0, 0)) hb7 (heap2_1 wo _ (.cells #[.int .i64 0, .int .i64 0, .int .i64 0, .string ⟨#[]⟩] 33)); obtain ⟨⟨u0, u1, u2, u3⟩, y0, y1, y2, y3⟩ := cells4 u) | skip) | (go_at_call 7; refine (HD8.out _).mono ?_; rintro e w5 ⟨rfl, rfl⟩))
    all_goals
      go_wp2_with fail
      go_meet
      have HW : Below wo.heap.size wo w7 := by first | exact below_call (below_alloc (below_alloc (Below.refl wo.heap.size wo))).drew hb7 | exact below_call (below_alloc (Below.refl wo.heap.size wo)).drew hb7
      have F7 := bblock HW Hf.out; have R7 := bblock HW Hr.out; have B7 := below_call HB HW; have lF := blk_lt Hf.out; have lR := blk_lt Hr.out; have lZ := HB.size
      refine ⟨rfl, ?_, ?_, ?_⟩
      · first | with_reducible exact block_alloc F7 _ | with_reducible exact (block_set_other (block_set_other (block_set_other (block_set_other F7 (by first | (simp; done) | (simp; omega))) (by first | (simp; done) | (simp; omega))) (by first | (simp; done) | (simp; omega))) (by first | (simp; done) | (simp; omega)))
      · first | with_reducible exact block_alloc R7 _ | with_reducible exact (block_set_other (block_set_other (block_set_other (block_set_other R7 (by first | (simp; done) | (simp; omega))) (by first | (simp; done) | (simp; omega))) (by first | (simp; done) | (simp; omega))) (by first | (simp; done) | (simp; omega)))
      · first | with_reducible exact below_alloc B7 | with_reducible exact (Below.setCell (Below.setCell (Below.setCell (Below.setCell B7 (by first | (simp; done) | (simp; omega)) _) (by first | (simp; done) | (simp; omega)) _) (by first | (simp; done) | (simp; omega)) _) (by first | (simp; done) | (simp; omega)) _)
  case rest =>
    clear HB Hf Hr b1 b2 b4 b5 b6 b7 hcv HDF2 HFL z1 z2 HD8 hm
    obtain ⟨rfl, Hf, Hr, HB⟩ := hcut
    have Hf := Lib.hid Hf; have Hr := Lib.hid Hr
    have HA1 := Lib.hid fun W => Lk.addressed_any (1 + t1) (1 + t2) 2 (1 + t1) ⟨R.toArray⟩ W
    have HA2 := Lib.hid fun W => Lk.addressed_any (1 + t1) (1 + t2) 2 (1 + t2) ⟨R.toArray⟩ W
    have e2 : decide ((1 + t1 = 1 + t2 ∨ 1 + t1 = 65535) ∧ 1 + t2 ≠ 1 + t2) = false := by simp
    rw [e2] at HA2; clear e2
    by_cases ht : t2 = t1
    · subst ht
      rw [show decide ((1 + t2 = 1 + t2 ∨ 1 + t2 = 65535) ∧ 1 + t2 ≠ 1 + t2) = false from by simp] at HA1
      have Sf := cells4 Hf.out
      obtain ⟨⟨qf0, qf1, qf2, qf3⟩, zf0, zf1, zf2, zf3⟩ := Sf
      have lt_f := blk_lt Hf.out
      have Sr := cells4 Hr.out
      obtain ⟨⟨qr0, qr1, qr2, qr3⟩, zr0, zr1, zr2, zr3⟩ := Sr
      have lt_r := blk_lt Hr.out
      go_wp2_with fail
      refine (HA1.out _).mono ?_
      rintro e w7 ⟨rfl, hb⟩
      clear qf0 zf0 qf1 zf1 qf2 zf2 qf3 zf3
      clear qr0 zr0 qr1 zr1 qr2 zr2 qr3 zr3
      have Hf' := Lib.hid (bblock hb Hf.out); clear Hf; have Hf := Hf'; clear Hf'
      have Hr' := Lib.hid (bblock hb Hr.out); clear Hr; have Hr := Hr'; clear Hr'
      have HB' := below_call HB hb; clear HB hb; have HB := HB'; clear HB'; have hz7 := HB.size
      have lt_f_7 := blk_lt Hf.out
      have lt_r_7 := blk_lt Hr.out
      have Sf := cells4 Hf.out
      obtain ⟨⟨qf0, qf1, qf2, qf3⟩, zf0, zf1, zf2, zf3⟩ := Sf
      have lt_f := blk_lt Hf.out
      have Sr := cells4 Hr.out
      obtain ⟨⟨qr0, qr1, qr2, qr3⟩, zr0, zr1, zr2, zr3⟩ := Sr
      have lt_r := blk_lt Hr.out
      go_wp2_with fail
      refine (HA2.out _).mono ?_
      rintro e w8 ⟨rfl, hb⟩
      go_wp2_with fail
      go_ret
      exact ⟨rfl, below_call HB hb⟩
    · rw [show decide ((1 + t1 = 1 + t1 ∨ 1 + t1 = 65535) ∧ 1 + t2 ≠ 1 + t1) = true from by simp; omega] at HA1
      have ht1 : ((1 + t2) != (1 + t1)) = true := by simp; omega
      have Sf := cells4 Hf.out
      obtain ⟨⟨qf0, qf1, qf2, qf3⟩, zf0, zf1, zf2, zf3⟩ := Sf
      have lt_f := blk_lt Hf.out
      have Sr := cells4 Hr.out
      obtain ⟨⟨qr0, qr1, qr2, qr3⟩, zr0, zr1, zr2, zr3⟩ := Sr
      have lt_r := blk_lt Hr.out
      go_wp2_with fail
      refine (HA1.out _).mono ?_
      rintro e w7 ⟨rfl, hb⟩
      clear qf0 zf0 qf1 zf1 qf2 zf2 qf3 zf3
      clear qr0 zr0 qr1 zr1 qr2 zr2 qr3 zr3
      have Hf' := Lib.hid (bblock hb Hf.out); clear Hf; have Hf := Hf'; clear Hf'
      have Hr' := Lib.hid (bblock hb Hr.out); clear Hr; have Hr := Hr'; clear Hr'
      have HB' := below_call HB hb; clear HB hb; have HB := HB'; clear HB'; have hz7 := HB.size
      have lt_f_7 := blk_lt Hf.out
      have lt_r_7 := blk_lt Hr.out
      have Sf := cells4 Hf.out
      obtain ⟨⟨qf0, qf1, qf2, qf3⟩, zf0, zf1, zf2, zf3⟩ := Sf
      have lt_f := blk_lt Hf.out
      have Sr := cells4 Hr.out
      obtain ⟨⟨qr0, qr1, qr2, qr3⟩, zr0, zr1, zr2, zr3⟩ := Sr
      have lt_r := blk_lt Hr.out
      go_wp2_with fail
      refine (HA2.out _).mono ?_
      rintro e w8 ⟨rfl, hb⟩
      go_wp2_with fail
      go_ret
      exact ⟨rfl, below_call HB hb⟩
end Go.Proofs.YtpiohahfdekmhaaDoor.Ip
