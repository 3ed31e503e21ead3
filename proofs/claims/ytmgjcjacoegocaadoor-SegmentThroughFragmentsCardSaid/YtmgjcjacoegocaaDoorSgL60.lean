/-
  The walk of the law SegmentThroughFragments.
-/
import Derived.Test.YtmgjcjacoegocaaDoorSgArg
import Derived.Test.YtmgjcjacoegocaaDoorSgEx
import Derived.Test.YtmgjcjacoegocaaDoorCarr
import Derived.IntWalk
namespace Go.Proofs.YtmgjcjacoegocaaDoor.Sg
set_option maxRecDepth 100000
open Go.RowKit Go.Proofs.YtmgjcjacoegocaaDoor.Wire

set_option maxHeartbeats 40000000 in
theorem law60_any (fp tp sq ack : Int) (syn fin rst ha : Bool) (win mss : Int) (sacks : Bool) (A : Option Addr) (n c : Nat) (bl : List (Int × Int)) (s : ByteArray) (kind p0_ p1_ sz_ tu_ at_ mk_ : Int) (a0 : Addr) (w : World) (hg : Lk.Gl w a0) (hfp : In64 fp) (htp : In64 tp) (hsq : In64 sq) (hack : In64 ack) (hwin : In64 win) (hmss : In64 mss) (hkind : In64 kind) (hf : In64 p0_) (ht : In64 p1_) (hsz : 0 ≤ sz_ ∧ sz_ ≤ 65535) (htu : 0 ≤ tu_ ∧ tu_ ≤ 255) (hat : 0 ≤ at_ ∧ at_ ≤ 65535) (hmk : 0 ≤ mk_ ∧ mk_ ≤ 255) (hA : ArgB w A n c bl) :
    Calls Tryd.prog 3 #[.agg #[.int .i64 fp, .int .i64 tp, .int .i64 sq, .int .i64 ack, .bool syn, .bool fin, .bool rst, .bool ha, .int .i64 win, .int .i64 mss, .bool sacks, .slice A n c, .string s], .int .i64 kind, .agg #[.int .i64 p0_, .int .i64 p1_], .int .u16 sz_, .int .u8 tu_, .int .u16 at_, .int .u8 mk_] w fun e w' => e = .returned (.bool true) ∧ Below w.heap.size w w' := by
  obtain ⟨z, rfl⟩ := Int.eq_ofNat_of_zero_le hsz.1
  obtain ⟨u, rfl⟩ := Int.eq_ofNat_of_zero_le htu.1
  obtain ⟨xx, rfl⟩ := Int.eq_ofNat_of_zero_le hat.1
  obtain ⟨mk, rfl⟩ := Int.eq_ofNat_of_zero_le hmk.1
  have HG := Lib.hid hg
  have HC := Lib.hid fun W (hA : ArgB W A n c bl) => cut_any fp tp sq ack syn fin rst ha win mss sacks A n c bl s W hfp htp hsq hack hwin hmss hA
  have HS := Lib.hid fun x A c W (hx : Seg.raw x) hb => segOf_raw x A c kind W hx hkind hb
  have hp := pick_lt p0_ 4294967294 (by omega)
  have hq := pick_lt p1_ 4294967294 (by omega)
  have HP := Lib.hid fun W => pick_any p0_ 4294967294 W hf.1 hf.2 (by omega) (by omega)
  have HQ := Lib.hid fun W => pick_any p1_ 4294967294 W ht.1 ht.2 (by omega) (by omega)
  generalize pick p0_ 4294967294 = ka at *
  generalize pick p1_ 4294967294 = kb at *
  obtain ⟨hp0, hp1⟩ := hp
  obtain ⟨hq0, hq1⟩ := hq
  have HA := Lib.hid hA
  have ua : IntKind.i64.wrap (1 + ka) = 1 + ka := IntWalk.i64_in _ (by omega)
  have ub : IntKind.i64.wrap (1 + kb) = 1 + kb := IntWalk.i64_in _ (by omega)
  obtain ⟨t8, ht8⟩ : ∃ t8, u % 80 = t8 := ⟨_, rfl⟩
  have ht8b : t8 ≤ 79 := by omega
  obtain ⟨z9, hz9⟩ : ∃ z9, z % 957 = z9 := ⟨_, rfl⟩
  have hz9b : z9 ≤ 956 := by omega
  have hzb : (z : Int) ≤ 65535 := hsz.2
  have hub : (u : Int) ≤ 255 := htu.2
  have m1 : ((u : Int)).tmod 80 = (t8 : Int) := by rw [Int.tmod_eq_emod_of_nonneg (by omega)]; omega
  have m2 : (u : Int) % 80 = (t8 : Int) := by omega
  have m3 : ((z : Int)).tmod 957 = (z9 : Int) := by rw [Int.tmod_eq_emod_of_nonneg (by omega)]; omega
  have m4 : (z : Int) % 957 = (z9 : Int) := by omega
  have m5 : IntKind.i64.wrap (68 + (z9 : Int)) = 68 + (z9 : Int) := IntWalk.i64_in _ (by omega)
  have m6 : IntKind.i64.wrap (u : Int) = (u : Int) := IntWalk.i64_in _ (by omega)
  have m7 : IntKind.i64.wrap (z : Int) = (z : Int) := IntWalk.i64_in _ (by omega)
  have m8 : IntKind.i64.wrap (xx : Int) = (xx : Int) := IntWalk.i64_in _ (by omega)
  have hxx : xx ≤ 65535 := by omega
  have hmkb : mk ≤ 255 := by omega
  clear hfp htp hsq hack hwin hmss hkind hf ht hg hA hsz htu hat hmk ht8 hz9
  go_enter Tryd.func3, Tryd.ntmps3
  have HB := Below.refl w.heap.size w
  have Hx := Lib.hid (alloc_new' w (.cells #[.int .i64 fp, .int .i64 tp, .int .i64 sq, .int .i64 ack, .bool syn, .bool fin, .bool rst, .bool ha, .int .i64 win, .int .i64 mss, .bool sacks, .slice A n c, .string s] 24) (w.heap.size) (by simp))
  have HA' := Lib.hid (HA.out.alloc (.cells #[.int .i64 fp, .int .i64 tp, .int .i64 sq, .int .i64 ack, .bool syn, .bool fin, .bool rst, .bool ha, .int .i64 win, .int .i64 mss, .bool sacks, .slice A n c, .string s] 24)); clear HA; have HA := HA'; clear HA'
  have HB' := below_alloc (o := .cells #[.int .i64 fp, .int .i64 tp, .int .i64 sq, .int .i64 ack, .bool syn, .bool fin, .bool rst, .bool ha, .int .i64 win, .int .i64 mss, .bool sacks, .slice A n c, .string s] 24) HB; clear HB; have HB := HB'; clear HB'
  have Hp := Lib.hid (alloc_new' (w.alloc (.cells #[.int .i64 fp, .int .i64 tp, .int .i64 sq, .int .i64 ack, .bool syn, .bool fin, .bool rst, .bool ha, .int .i64 win, .int .i64 mss, .bool sacks, .slice A n c, .string s] 24)) (.cells #[.int .i64 p0_, .int .i64 p1_] 25) (w.heap.size + 1) (by simp))
  have Hx' := Lib.hid (block_alloc Hx.out (.cells #[.int .i64 p0_, .int .i64 p1_] 25)); clear Hx; have Hx := Hx'; clear Hx'
  have HA' := Lib.hid (HA.out.alloc (.cells #[.int .i64 p0_, .int .i64 p1_] 25)); clear HA; have HA := HA'; clear HA'
  have HB' := below_alloc (o := .cells #[.int .i64 p0_, .int .i64 p1_] 25) HB; clear HB; have HB := HB'; clear HB'
  go_wp2_with fail
  refine (examples_any _).mono ?_
  rintro e w1 ⟨rfl, hb⟩
  have Hx' := Lib.hid (bblock hb Hx.out); clear Hx; have Hx := Hx'; clear Hx'
  have Hp' := Lib.hid (bblock hb Hp.out); clear Hp; have Hp := Hp'; clear Hp'
  have HA' := Lib.hid (HA.out.below hb); clear HA; have HA := HA'; clear HA'
  have HB' := below_call HB hb; clear HB hb; have HB := HB'; clear HB'; have hz1 := HB.size
  have lt_x_1 := blk_lt Hx.out
  have lt_p_1 := blk_lt Hp.out
  have Sp := cells2 Hp.out
  obtain ⟨⟨qp0, qp1⟩, zp0, zp1⟩ := Sp
  have lt_p := blk_lt Hp.out
  go_wp2_with fail
  refine (HP.out _).mono ?_
  rintro e w' ⟨rfl, rfl⟩
  go_wp2_with fail
  refine (HQ.out _).mono ?_
  rintro e w' ⟨rfl, rfl⟩
  clear qp0 zp0 qp1 zp1
  clear Hp
  have Sx := cells13 Hx.out
  obtain ⟨⟨qx0, qx1, qx2, qx3, qx4, qx5, qx6, qx7, qx8, qx9, qx10, qx11, qx12⟩, zx0, zx1, zx2, zx3, zx4, zx5, zx6, zx7, zx8, zx9, zx10, zx11, zx12⟩ := Sx
  have lt_x := blk_lt Hx.out
  go_wp2_with fail
  refine (HC.out _ HA.out).mono ?_
  rintro e w2 ⟨sx, A2, c2, hx, rfl, hbk, hb⟩
  clear qx0 zx0 qx1 zx1 qx2 zx2 qx3 zx3 qx4 zx4 qx5 zx5 qx6 zx6 qx7 zx7 qx8 zx8 qx9 zx9 qx10 zx10 qx11 zx11 qx12 zx12
  have Hx' := Lib.hid (bblock hb Hx.out); clear Hx; have Hx := Hx'; clear Hx'
  have HA' := Lib.hid (HA.out.below hb); clear HA; have HA := HA'; clear HA'
  have HB' := below_call HB hb; clear HB hb; have HB := HB'; clear HB'; have hz2 := HB.size
  have lt_x_2 := blk_lt Hx.out
  have HX := Lib.hid hx; have HK := Lib.hid hbk; clear hx hbk
  clear Hx HA
  go_wp2_with fail
  refine (HS.out sx A2 c2 _ HX.out HK.out).mono ?_
  rintro e w3 ⟨y, A3, c3, hy, rfl, hbk, hb⟩
  have HB' := below_call HB hb; clear HB hb; have HB := HB'; clear HB'; have hz3 := HB.size
  clear HX HK HC HS
  dsimp only [Seg.val]
  obtain ⟨p, hp⟩ : ∃ p, 1 + ka = p := ⟨_, rfl⟩
  obtain ⟨q, hq⟩ : ∃ q, 1 + kb = q := ⟨_, rfl⟩
  rw [hp, hq]
  have hpb : 1 ≤ p ∧ p ≤ 4294967294 := by omega
  have hqb : 1 ≤ q ∧ q ≤ 4294967294 := by omega
  clear hp hq ua ub HP HQ hp0 hp1 hq0 hq1
  have hE0 : (y.enc p q).length ≤ 1100 := enc_le p q y hy
  have hde := (dec_enc p q y hy).1
  have hdo := enc_decOk p q y hy
  have hybl : y.bl.length ≤ 9223372036854775807 := by have := enc_length p q y; omega
  have HEn := Lib.hid fun W hb => enc_ok p q y A3 c3 W ⟨by omega, by omega⟩ ⟨by omega, by omega⟩ hy hb
  have HDe : Hid (∀ W, Calls Tryd.prog 11 #[.int .i64 p, .int .i64 q, .string ⟨(y.enc p q).toArray⟩] W fun e w' => (∃ (A : Option Addr) (c : Nat), e = .returned (.tuple #[.agg #[.int .i64 y.fp, .int .i64 y.tp, .int .i64 y.sq, .int .i64 y.ack, .bool y.syn, .bool y.fin, .bool y.rst, .bool y.ha, .int .i64 y.win, .int .i64 y.mss, .bool y.sacks, .slice A y.bl.length c, .string y.s], .int .i64 0]) ∧ Bks w' A y.bl.length y.bl) ∧ Below W.heap.size W w') := Lib.hid fun W => (Dec_yes p q ⟨(y.enc p q).toArray⟩ W (by show (y.enc p q).length ≤ _; omega) ⟨by omega, by omega⟩ ⟨by omega, by omega⟩ hdo).mono fun e w' h => by
    obtain ⟨A, c, h1, h2, h3⟩ := h
    rw [hde] at h1 h2
    exact ⟨⟨A, c, h1, h2⟩, h3⟩
  have HSm := Lib.hid fun (A A' : Option Addr) (c c' : Nat) (W : World) h1 h2 => rsame_any y y A A' c c' W hybl h1 h2; rw [(sameB_iff y y).2 rfl] at HSm
  have HAd := Lib.hid fun W => addr_any p W; rw [show adrB p = true from decide_eq_true ⟨by omega, by omega⟩] at HAd
  dsimp only [Seg.val] at HEn
  have HK3 := Lib.hid hbk; clear hbk hy hde hdo
  generalize y.enc p q = E at *
  have HC1 := Lib.hid fun W (hg : Lk.Gl W a0) => Re.carried_walk (.tuple #[.string ⟨E.toArray⟩, .bool true]) ⟨E.toArray⟩ p q (68 + (z9 : Int)) t8 0 0 W a0 hg hpb hqb (by omega) ht8b (by omega) (by omega) (by show E.length ≤ _; omega) (Lib.hid fun _ => rfl) (Lib.hid fun h => absurd rfl h)
  have HC2 := Lib.hid fun W (hg : Lk.Gl W a0) => Re.carried_walk (.tuple #[.string (if mk = 0 then ⟨E.toArray⟩ else ⟨#[]⟩), .bool (decide (mk = 0))]) ⟨E.toArray⟩ p q (68 + (z9 : Int)) t8 xx mk W a0 hg hpb hqb (by omega) ht8b hxx hmkb (by show E.length ≤ _; omega) (Lib.hid fun h => by rw [if_pos h, decide_eq_true h]) (Lib.hid fun h => by rw [if_neg h, decide_eq_false h])
  generalize hs2 : (if mk = 0 then (⟨E.toArray⟩ : ByteArray) else ⟨#[]⟩) = S2 at *
  have hlb : (((mk : Int)) == 0) = decide (mk = 0) := by rw [Bool.eq_iff_iff, beq_iff_eq, decide_eq_true_eq]; omega
  generalize decide (mk = 0) = lb at *
  clear hs2
  rw [show ((0 : Nat) : Int) = 0 from rfl] at HC1
  have Hy := Lib.hid (alloc_new' w3 (.cells #[.int .i64 y.fp, .int .i64 y.tp, .int .i64 y.sq, .int .i64 y.ack, .bool y.syn, .bool y.fin, .bool y.rst, .bool y.ha, .int .i64 y.win, .int .i64 y.mss, .bool y.sacks, .slice A3 y.bl.length c3, .string y.s] 24) (w3.heap.size) (by simp))
  have HK3' := Lib.hid (HK3.out.alloc (.cells #[.int .i64 y.fp, .int .i64 y.tp, .int .i64 y.sq, .int .i64 y.ack, .bool y.syn, .bool y.fin, .bool y.rst, .bool y.ha, .int .i64 y.win, .int .i64 y.mss, .bool y.sacks, .slice A3 y.bl.length c3, .string y.s] 24)); clear HK3; have HK3 := HK3'; clear HK3'
  have HB' := below_alloc (o := .cells #[.int .i64 y.fp, .int .i64 y.tp, .int .i64 y.sq, .int .i64 y.ack, .bool y.syn, .bool y.fin, .bool y.rst, .bool y.ha, .int .i64 y.win, .int .i64 y.mss, .bool y.sacks, .slice A3 y.bl.length c3, .string y.s] 24) HB; clear HB; have HB := HB'; clear HB'
  have Sy := cells13 Hy.out
  obtain ⟨⟨qy0, qy1, qy2, qy3, qy4, qy5, qy6, qy7, qy8, qy9, qy10, qy11, qy12⟩, zy0, zy1, zy2, zy3, zy4, zy5, zy6, zy7, zy8, zy9, zy10, zy11, zy12⟩ := Sy
  have lt_y := blk_lt Hy.out
  go_wp2_with fail
  refine (HEn.out _ HK3.out).mono ?_
  rintro e w4 ⟨rfl, hb⟩
  clear qy0 zy0 qy1 zy1 qy2 zy2 qy3 zy3 qy4 zy4 qy5 zy5 qy6 zy6 qy7 zy7 qy8 zy8 qy9 zy9 qy10 zy10 qy11 zy11 qy12 zy12
  have Hy' := Lib.hid (bblock hb Hy.out); clear Hy; have Hy := Hy'; clear Hy'
  have HK3' := Lib.hid (HK3.out.below hb); clear HK3; have HK3 := HK3'; clear HK3'
  have HB' := below_call HB hb; clear HB hb; have HB := HB'; clear HB'; have hz4 := HB.size
  have lt_y_4 := blk_lt Hy.out
  go_wp2_with fail
  refine (HC1.out _ (HG.out.below HB)).mono ?_
  rintro e w5 ⟨rfl, hb⟩
  have Hy' := Lib.hid (bblock hb Hy.out); clear Hy; have Hy := Hy'; clear Hy'
  have HK3' := Lib.hid (HK3.out.below hb); clear HK3; have HK3 := HK3'; clear HK3'
  have HB' := below_call HB hb; clear HB hb; have HB := HB'; clear HB'; have hz5 := HB.size
  have lt_y_5 := blk_lt Hy.out
  go_wp2_with fail
  refine (HDe.out _).mono ?_
  rintro e w6 ⟨⟨A4, c4, rfl, hbk4⟩, hb⟩
  have Hy' := Lib.hid (bblock hb Hy.out); clear Hy; have Hy := Hy'; clear Hy'
  have HK3' := Lib.hid (HK3.out.below hb); clear HK3; have HK3 := HK3'; clear HK3'
  have HB' := below_call HB hb; clear HB hb; have HB := HB'; clear HB'; have hz6 := HB.size
  have lt_y_6 := blk_lt Hy.out
  have HK4 := Lib.hid hbk4; clear hbk4
  have Hv := Lib.hid (alloc_new' w6 (.cells #[.int .i64 y.fp, .int .i64 y.tp, .int .i64 y.sq, .int .i64 y.ack, .bool y.syn, .bool y.fin, .bool y.rst, .bool y.ha, .int .i64 y.win, .int .i64 y.mss, .bool y.sacks, .slice A4 y.bl.length c4, .string y.s] 24) (w6.heap.size) (by simp))
  have Hy' := Lib.hid (block_alloc Hy.out (.cells #[.int .i64 y.fp, .int .i64 y.tp, .int .i64 y.sq, .int .i64 y.ack, .bool y.syn, .bool y.fin, .bool y.rst, .bool y.ha, .int .i64 y.win, .int .i64 y.mss, .bool y.sacks, .slice A4 y.bl.length c4, .string y.s] 24)); clear Hy; have Hy := Hy'; clear Hy'
  have HK3' := Lib.hid (HK3.out.alloc (.cells #[.int .i64 y.fp, .int .i64 y.tp, .int .i64 y.sq, .int .i64 y.ack, .bool y.syn, .bool y.fin, .bool y.rst, .bool y.ha, .int .i64 y.win, .int .i64 y.mss, .bool y.sacks, .slice A4 y.bl.length c4, .string y.s] 24)); clear HK3; have HK3 := HK3'; clear HK3'
  have HK4' := Lib.hid (HK4.out.alloc (.cells #[.int .i64 y.fp, .int .i64 y.tp, .int .i64 y.sq, .int .i64 y.ack, .bool y.syn, .bool y.fin, .bool y.rst, .bool y.ha, .int .i64 y.win, .int .i64 y.mss, .bool y.sacks, .slice A4 y.bl.length c4, .string y.s] 24)); clear HK4; have HK4 := HK4'; clear HK4'
  have HB' := below_alloc (o := .cells #[.int .i64 y.fp, .int .i64 y.tp, .int .i64 y.sq, .int .i64 y.ack, .bool y.syn, .bool y.fin, .bool y.rst, .bool y.ha, .int .i64 y.win, .int .i64 y.mss, .bool y.sacks, .slice A4 y.bl.length c4, .string y.s] 24) HB; clear HB; have HB := HB'; clear HB'
  have Sy := cells13 Hy.out
  obtain ⟨⟨qy0, qy1, qy2, qy3, qy4, qy5, qy6, qy7, qy8, qy9, qy10, qy11, qy12⟩, zy0, zy1, zy2, zy3, zy4, zy5, zy6, zy7, zy8, zy9, zy10, zy11, zy12⟩ := Sy
  have lt_y := blk_lt Hy.out
  have Sv := cells13 Hv.out
  obtain ⟨⟨qv0, qv1, qv2, qv3, qv4, qv5, qv6, qv7, qv8, qv9, qv10, qv11, qv12⟩, zv0, zv1, zv2, zv3, zv4, zv5, zv6, zv7, zv8, zv9, zv10, zv11, zv12⟩ := Sv
  have lt_v := blk_lt Hv.out
  go_wp2_with fail
  refine (HSm.out _ _ _ _ _ HK4.out HK3.out).mono ?_
  rintro e w7 ⟨rfl, hb⟩
  clear qy0 zy0 qy1 zy1 qy2 zy2 qy3 zy3 qy4 zy4 qy5 zy5 qy6 zy6 qy7 zy7 qy8 zy8 qy9 zy9 qy10 zy10 qy11 zy11 qy12 zy12
  clear qv0 zv0 qv1 zv1 qv2 zv2 qv3 zv3 qv4 zv4 qv5 zv5 qv6 zv6 qv7 zv7 qv8 zv8 qv9 zv9 qv10 zv10 qv11 zv11 qv12 zv12
  have Hy' := Lib.hid (bblock hb Hy.out); clear Hy; have Hy := Hy'; clear Hy'
  have Hv' := Lib.hid (bblock hb Hv.out); clear Hv; have Hv := Hv'; clear Hv'
  have HK3' := Lib.hid (HK3.out.below hb); clear HK3; have HK3 := HK3'; clear HK3'
  have HK4' := Lib.hid (HK4.out.below hb); clear HK4; have HK4 := HK4'; clear HK4'
  have HB' := below_call HB hb; clear HB hb; have HB := HB'; clear HB'; have hz7 := HB.size
  have lt_y_7 := blk_lt Hy.out
  have lt_v_7 := blk_lt Hv.out
  go_wp2_with fail
  refine (HAd.out _).mono ?_
  rintro e w' ⟨rfl, rfl⟩
  go_wp2_with fail
  refine (HC2.out _ (HG.out.below HB)).mono ?_
  rintro e w8 ⟨rfl, hb⟩
  have Hy' := Lib.hid (bblock hb Hy.out); clear Hy; have Hy := Hy'; clear Hy'
  have Hv' := Lib.hid (bblock hb Hv.out); clear Hv; have Hv := Hv'; clear Hv'
  have HK3' := Lib.hid (HK3.out.below hb); clear HK3; have HK3 := HK3'; clear HK3'
  have HK4' := Lib.hid (HK4.out.below hb); clear HK4; have HK4 := HK4'; clear HK4'
  have HB' := below_call HB hb; clear HB hb; have HB := HB'; clear HB'; have hz8 := HB.size
  have lt_y_8 := blk_lt Hy.out
  have lt_v_8 := blk_lt Hv.out
  go_wp2_with fail
  go_ret
  exact ⟨rfl, HB⟩
end Go.Proofs.YtmgjcjacoegocaaDoor.Sg
