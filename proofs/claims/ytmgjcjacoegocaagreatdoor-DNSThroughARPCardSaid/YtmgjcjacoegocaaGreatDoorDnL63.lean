/-
  The walk of the law DNSThroughARP.
-/
import Derived.Test.YtmgjcjacoegocaaGreatDoorDnLaw0
import Derived.Test.YtmgjcjacoegocaaGreatDoorPkM
import Derived.Test.YtmgjcjacoegocaaGreatDoorLkM
import Derived.Test.YtmgjcjacoegocaaGreatDoorRtM
import Derived.Test.YtmgjcjacoegocaaGreatDoorArM
import Derived.IntWalk
import Derived.Deep.RegionHeld3
import Derived.Deep.QuietTactic
import Derived.BigQuiet
import Derived.Deep.DeepCutAuto
import Derived.Deep.CutRange
import Derived.Outline
namespace Go.Proofs.YtmgjcjacoegocaaGreatDoor.Dn
set_option maxRecDepth 100000
open Go.RowKit Go.Proofs.YtmgjcjacoegocaaGreatDoor.Wire Go.Proofs.YtmgjcjacoegocaaGreatDoor.Rw
open Go.Proofs.YtmgjcjacoegocaaGreatDoor.Ar (OneA sendA recvA MRow HRow)

theorem enc_short (d : Msg) (h : msgB d = true) (hr : d.recs = []) : 8 ≤ (enc d).length ∧ (enc d).length ≤ 70 := by
  have h0 := (enc_len d h).1
  unfold msgB at h
  simp only [Bool.and_eq_true, decide_eq_true_eq] at h
  have h1 := name_len h.1.1.1.1.2
  refine ⟨h0, ?_⟩
  unfold enc
  rw [hr]
  simp only [List.length_append, be_length, encName_len, List.flatMap_nil, List.length_nil]
  omega
theorem enc_id (d : Msg) (h : msgB d = true) : num (bytesAt ⟨(enc d).toArray⟩ 0 2) = d.id := by
  have h1 := (msgB_iff d).1 h
  have h2 : 0 ≤ d.id ∧ d.id ≤ 65535 := by
    obtain ⟨⟨a, b, -⟩, -⟩ := h1
    exact ⟨a, b⟩
  exact Ip.mid_num (enc d) [] (be 1 (ansN d.ans) ++ (be 1 d.code ++ (be 1 d.kd ++ (encName d.nm ++ (be 1 d.recs.length ++ d.recs.flatMap encRec))))) 0 2 d.id (by unfold enc; rfl) rfl h2.1 (by omega)
theorem send63 (mac : Int) (s : ByteArray) (hs : s.size ≤ 1024) : sendA ⟨167772161, mac, false, 0⟩ [] 0 167772414 s = ([(167772414, .inc [s] 1 0 0)], 0, [⟨1, 167772161, mac, 167772414, 0⟩], 0) := by
  unfold sendA
  rw [if_neg (by
    rintro (h | h | h)
    · revert h; decide
    · exact absurd h (by show ¬ ((167772414 : Int) = 167772161); decide)
    · omega)]
  rfl
theorem recv63 (mac th : Int) (s : ByteArray) (hm : 1 ≤ mac ∧ mac ≤ 65534) (ht : 1 ≤ th ∧ th ≤ 65534) : recvA ⟨167772161, mac, false, 0⟩ [(167772414, .inc [s] 1 0 0)] 1 ⟨2, 167772414, th, 167772161, mac⟩ = (⟨167772161, mac, false, 0⟩, [(167772414, .res th 1 1)], [], [⟨167772414, th, s⟩]) := by
  unfold recvA
  rw [if_neg (by
    have : (⟨2, 167772414, th, 167772161, mac⟩ : Ar.Am).ok := by unfold Ar.Am.ok; dsimp only; omega
    simpa using this), if_neg (show ¬ ((167772414 : Int) = 167772161) by decide), if_neg (show ¬ ((167772161 : Int) ≠ 167772161) by decide)]
  have hl : Ar.look [((167772414 : Int), Ar.Ev.inc [s] 1 0 0)] 167772414 = some (.inc [s] 1 0 0) := by simp [Ar.look]
  dsimp only
  rw [hl]
  simp [Ar.upd]
set_option maxHeartbeats 40000000 in
theorem law63_any (x : DR) (sv m0 m1 : Int) (Ax : Option Addr) (nx cx : Nat) (a0 : Addr) (w : World) (hg : Lk.Gl w a0) (hx : x.ok) (hAx : RArg w Ax nx x.recs) (hsv : In64 sv) (hm0 : 0 ≤ m0 ∧ m0 ≤ 65535) (hm1 : 0 ≤ m1 ∧ m1 ≤ 65535) :
    Calls Tryz.prog 4 #[.agg #[.int .i64 x.id, .bool x.ans, .int .i64 x.code, .int .i64 x.nm, .bool x.alias, .slice Ax nx cx], .int .i64 sv, .agg #[.int .u16 m0, .int .u16 m1]] w fun e w' => e = .returned (.bool true) ∧ Below w.heap.size w w' := by
  obtain ⟨z0, rfl⟩ := Int.eq_ofNat_of_zero_le hm0.1
  obtain ⟨z1, rfl⟩ := Int.eq_ofNat_of_zero_le hm1.1
  have HG := Lib.hid hg
  have HAx := Lib.hid hAx; clear hAx
  have hx' : (DR.mk x.id false x.code x.nm x.alias x.recs).ok := hx
  have HX := Lib.hid fun W h => dnsL ⟨x.id, false, x.code, x.nm, x.alias, x.recs⟩ Ax nx cx W hx' h
  dsimp only at HX
  have ok1 := dnsOf_ok ⟨x.id, false, x.code, x.nm, x.alias, x.recs⟩
  have hrec : (dnsOf ⟨x.id, false, x.code, x.nm, x.alias, x.recs⟩).recs = [] := rfl
  generalize dnsOf ⟨x.id, false, x.code, x.nm, x.alias, x.recs⟩ = d1 at *
  have HE := Lib.hid (encL d1 ok1); have HD := Lib.hid (decL d1 ok1)
  have HS := Lib.hid (rsameL d1 d1 (ok_recs ok1) (ok_recs ok1)); rw [decide_eq_true (rfl : d1 = d1)] at HS
  obtain ⟨hln0, hln⟩ := enc_short d1 ok1 hrec
  have hid := enc_id d1 ok1
  generalize enc d1 = E at *
  have HGet : Hid (∀ W, Calls Tryz.prog 26 #[.string ⟨E.toArray⟩, .int .i64 0, .int .i64 2] W fun e w' => e = .returned (.tuple #[.int .i64 d1.id, .int .i64 0]) ∧ Below W.heap.size W w') := Lib.hid fun W => by
    have := getv2 ⟨E.toArray⟩ 0 W (by omega) (by show (0 : Int) + 2 ≤ (E.length : Int); omega) (by show E.length ≤ _; omega)
    rw [show (0 : Int).toNat = 0 from rfl, hid] at this
    exact this
  have hk := pick_lt sv 65536 (by omega)
  have HPk := Lib.hid fun W => pick_any sv 65536 W hsv (by omega) (by omega)
  generalize pick sv 65536 = kk at *
  obtain ⟨hk0, hk1⟩ := hk
  have uw1 : IntKind.i64.wrap (3232235520 + kk) = 3232235520 + kk := IntWalk.i64_in _ (by omega)
  obtain ⟨y0, hy0⟩ : ∃ y, z0 % 65534 = y := ⟨_, rfl⟩
  obtain ⟨y1, hy1⟩ : ∃ y, z1 % 65534 = y := ⟨_, rfl⟩
  have hy0b : y0 ≤ 65533 := by omega
  have hy1b : y1 ≤ 65533 := by omega
  have hz0b : z0 ≤ 65535 := by have := hm0.2; omega
  have hz1b : z1 ≤ 65535 := by have := hm1.2; omega
  have m3 : ((z0 : Int)).tmod 65534 = (y0 : Int) := by rw [Int.tmod_eq_emod_of_nonneg (by omega)]; omega
  have m4 : (z0 : Int) % 65534 = (y0 : Int) := by omega
  have m5 : IntKind.i64.wrap (1 + (y0 : Int)) = 1 + (y0 : Int) := IntWalk.i64_in _ (by omega)
  have m6 : IntKind.i64.wrap (z0 : Int) = (z0 : Int) := IntWalk.i64_in _ (by omega)
  have n3 : ((z1 : Int)).tmod 65534 = (y1 : Int) := by rw [Int.tmod_eq_emod_of_nonneg (by omega)]; omega
  have n4 : (z1 : Int) % 65534 = (y1 : Int) := by omega
  have n5 : IntKind.i64.wrap (1 + (y1 : Int)) = 1 + (y1 : Int) := IntWalk.i64_in _ (by omega)
  have n6 : IntKind.i64.wrap (z1 : Int) = (z1 : Int) := IntWalk.i64_in _ (by omega)
  obtain ⟨U, hUl, HUE, HUD⟩ := Ip.udpRt 167772161 (3232235520 + kk) 20101 53 E (by omega) (by omega) (by omega) (by omega) (by omega)
  obtain ⟨R, hRl, -, -, HEn, HDk⟩ := Ip.pkRt 167772161 (3232235520 + kk) 17 32 1 false false 0 ⟨U.toArray⟩ (by
    have hs : (⟨U.toArray⟩ : ByteArray).size = U.length := rfl
    unfold Ip.Pk.ok
    rw [hs]
    show Ip.VLen 167772161 (3232235520 + kk) 17 32 1 false false 0 U.length
    unfold Ip.VLen; simp; omega)
  have hRn : R.length ≤ 100 := by have hs : (⟨U.toArray⟩ : ByteArray).size = U.length := rfl; omega
  have HLk := Lib.hid fun (g c h cr : Nat) W (hf : Rt.FB W g (1 + (y0 : Int)) 1024) (hr : Rt.RB W h) => Rt.lookup2 g c h cr (1 + (y0 : Int)) 1024 (3232235520 + kk) W (by omega) (by omega) (by omega) hf hr
  clear hx hx' ok1 hrec hsv hm0 hm1 hy0 hy1 hln hln0 hid hUl hRl hg
  have HB := Below.refl w.heap.size w
  have HAw := HAx
  have Hx := Lib.hid (alloc_new' w (.cells #[.int .i64 x.id, .bool x.ans, .int .i64 x.code, .int .i64 x.nm, .bool x.alias, .slice Ax nx cx] 24) (w.heap.size) (by simp))
  have HAx' := Lib.hid (HAx.out.alloc (.cells #[.int .i64 x.id, .bool x.ans, .int .i64 x.code, .int .i64 x.nm, .bool x.alias, .slice Ax nx cx] 24)); clear HAx; have HAx := HAx'; clear HAx'
  have HB' := below_alloc (o := .cells #[.int .i64 x.id, .bool x.ans, .int .i64 x.code, .int .i64 x.nm, .bool x.alias, .slice Ax nx cx] 24) HB; clear HB; have HB := HB'; clear HB'
  have Hp := Lib.hid (alloc_new' (w.alloc (.cells #[.int .i64 x.id, .bool x.ans, .int .i64 x.code, .int .i64 x.nm, .bool x.alias, .slice Ax nx cx] 24)) (.cells #[.int .u16 (z0 : Int), .int .u16 (z1 : Int)] 67) (w.heap.size + 1) (by simp))
  have Hx' := Lib.hid (block_alloc Hx.out (.cells #[.int .u16 (z0 : Int), .int .u16 (z1 : Int)] 67)); clear Hx; have Hx := Hx'; clear Hx'
  have HAx' := Lib.hid (HAx.out.alloc (.cells #[.int .u16 (z0 : Int), .int .u16 (z1 : Int)] 67)); clear HAx; have HAx := HAx'; clear HAx'
  have HB' := below_alloc (o := .cells #[.int .u16 (z0 : Int), .int .u16 (z1 : Int)] 67) HB; clear HB; have HB := HB'; clear HB'
  go_enter Tryz.func4, Tryz.ntmps4
  go_wp2_with fail
  refine (examples_any _).mono ?_
  rintro e w1 ⟨rfl, hb⟩
  have Hx' := Lib.hid (bblock hb Hx.out); clear Hx; have Hx := Hx'; clear Hx'
  have Hp' := Lib.hid (bblock hb Hp.out); clear Hp; have Hp := Hp'; clear Hp'
  have HAx' := Lib.hid (HAx.out.below hb); clear HAx; have HAx := HAx'; clear HAx'
  have HB' := below_call HB hb; clear HB hb; have HB := HB'; clear HB'; have hz1 := HB.size
  have lt_x_1 := blk_lt Hx.out
  have lt_p_1 := blk_lt Hp.out
  have Sx := cells6 Hx.out
  obtain ⟨⟨qx0, qx1, qx2, qx3, qx4, qx5⟩, zx0, zx1, zx2, zx3, zx4, zx5⟩ := Sx
  have lt_x := blk_lt Hx.out
  go_upto_region 7 with fail
  clear qx0 zx0 qx1 zx1 qx2 zx2 qx3 zx3 qx4 zx4 qx5 zx5
  have Hp' := Lib.hid (block_set_other (a := ⟨w.heap.size, 1, none⟩) (u := .bool false) Hp.out (by first | (simp; done) | (simp; omega))); clear Hp; have Hp := Hp'; clear Hp'
  have Hx' := Lib.hid (cells_eq (b := #[.int .i64 x.id, .bool false, .int .i64 x.code, .int .i64 x.nm, .bool x.alias, .slice Ax nx cx]) (block_setCell (k := 1) (v := .bool false) Hx.out) rfl); clear Hx; have Hx := Hx'; clear Hx'
  have HB' := Below.setCell HB (p := ⟨w.heap.size, 1, none⟩) (by first | (simp; done) | (simp; omega)) (.bool false); clear HB; have HB := HB'; clear HB'
  generalize World.setCell w1 ⟨w.heap.size, 1, none⟩ (.bool false) = w1s at *
  have HAx' := Lib.hid (HAw.out.below HB); clear HAx; have HAx := HAx'; clear HAx'
  have Sp := cells2 Hp.out
  obtain ⟨⟨qp0, qp1⟩, zp0, zp1⟩ := Sp
  have lt_p := blk_lt Hp.out
  go_upto_region 9 with ((with_reducible refine (HPk.out _).mono ?_); rintro e w' ⟨rfl, rfl⟩)
  clear qp0 zp0 qp1 zp1
  have Hh := Lib.hid (alloc_new' w1s (.cells #[.int .i64 (1 + (y0 : Int)), .int .i64 167772161, .int .i64 167772160, .int .i64 24, .int .i64 1024] 30) (w1s.heap.size) (by simp))
  have Hx' := Lib.hid (block_alloc Hx.out (.cells #[.int .i64 (1 + (y0 : Int)), .int .i64 167772161, .int .i64 167772160, .int .i64 24, .int .i64 1024] 30)); clear Hx; have Hx := Hx'; clear Hx'
  have Hp' := Lib.hid (block_alloc Hp.out (.cells #[.int .i64 (1 + (y0 : Int)), .int .i64 167772161, .int .i64 167772160, .int .i64 24, .int .i64 1024] 30)); clear Hp; have Hp := Hp'; clear Hp'
  have HAx' := Lib.hid (HAx.out.alloc (.cells #[.int .i64 (1 + (y0 : Int)), .int .i64 167772161, .int .i64 167772160, .int .i64 24, .int .i64 1024] 30)); clear HAx; have HAx := HAx'; clear HAx'
  have HB' := below_alloc (o := .cells #[.int .i64 (1 + (y0 : Int)), .int .i64 167772161, .int .i64 167772160, .int .i64 24, .int .i64 1024] 30) HB; clear HB; have HB := HB'; clear HB'
  have Sh := cells5 Hh.out
  obtain ⟨⟨qh0, qh1, qh2, qh3, qh4⟩, zh0, zh1, zh2, zh3, zh4⟩ := Sh
  have lt_h := blk_lt Hh.out
  go_wp2_with fail
  clear qh0 zh0 qh1 zh1 qh2 zh2 qh3 zh3 qh4 zh4
  have Hf := Lib.hid (alloc_new' (w1s.alloc (.cells #[.int .i64 (1 + (y0 : Int)), .int .i64 167772161, .int .i64 167772160, .int .i64 24, .int .i64 1024] 30)) (.cells #[.int .i64 (1 + (y0 : Int)), .int .i64 167772161, .int .i64 167772160, .int .i64 24, .int .i64 1024] 30) (w1s.heap.size + 1) (by simp))
  have Hx' := Lib.hid (block_alloc Hx.out (.cells #[.int .i64 (1 + (y0 : Int)), .int .i64 167772161, .int .i64 167772160, .int .i64 24, .int .i64 1024] 30)); clear Hx; have Hx := Hx'; clear Hx'
  have Hp' := Lib.hid (block_alloc Hp.out (.cells #[.int .i64 (1 + (y0 : Int)), .int .i64 167772161, .int .i64 167772160, .int .i64 24, .int .i64 1024] 30)); clear Hp; have Hp := Hp'; clear Hp'
  have Hh' := Lib.hid (block_alloc Hh.out (.cells #[.int .i64 (1 + (y0 : Int)), .int .i64 167772161, .int .i64 167772160, .int .i64 24, .int .i64 1024] 30)); clear Hh; have Hh := Hh'; clear Hh'
  have HAx' := Lib.hid (HAx.out.alloc (.cells #[.int .i64 (1 + (y0 : Int)), .int .i64 167772161, .int .i64 167772160, .int .i64 24, .int .i64 1024] 30)); clear HAx; have HAx := HAx'; clear HAx'
  have HB' := below_alloc (o := .cells #[.int .i64 (1 + (y0 : Int)), .int .i64 167772161, .int .i64 167772160, .int .i64 24, .int .i64 1024] 30) HB; clear HB; have HB := HB'; clear HB'
  have Hr := Lib.hid (alloc_new' ((w1s.alloc (.cells #[.int .i64 (1 + (y0 : Int)), .int .i64 167772161, .int .i64 167772160, .int .i64 24, .int .i64 1024] 30)).alloc (.cells #[.int .i64 (1 + (y0 : Int)), .int .i64 167772161, .int .i64 167772160, .int .i64 24, .int .i64 1024] 30)) (.cells #[.int .i64 0, .int .i64 0, .int .i64 167772414, .int .i64 0] 70) (w1s.heap.size + 1 + 1) (by simp))
  have Hx' := Lib.hid (block_alloc Hx.out (.cells #[.int .i64 0, .int .i64 0, .int .i64 167772414, .int .i64 0] 70)); clear Hx; have Hx := Hx'; clear Hx'
  have Hp' := Lib.hid (block_alloc Hp.out (.cells #[.int .i64 0, .int .i64 0, .int .i64 167772414, .int .i64 0] 70)); clear Hp; have Hp := Hp'; clear Hp'
  have Hh' := Lib.hid (block_alloc Hh.out (.cells #[.int .i64 0, .int .i64 0, .int .i64 167772414, .int .i64 0] 70)); clear Hh; have Hh := Hh'; clear Hh'
  have Hf' := Lib.hid (block_alloc Hf.out (.cells #[.int .i64 0, .int .i64 0, .int .i64 167772414, .int .i64 0] 70)); clear Hf; have Hf := Hf'; clear Hf'
  have HAx' := Lib.hid (HAx.out.alloc (.cells #[.int .i64 0, .int .i64 0, .int .i64 167772414, .int .i64 0] 70)); clear HAx; have HAx := HAx'; clear HAx'
  have HB' := below_alloc (o := .cells #[.int .i64 0, .int .i64 0, .int .i64 167772414, .int .i64 0] 70) HB; clear HB; have HB := HB'; clear HB'
  refine (HLk.out _ _ _ _ _ (by exact Hf.out) (by exact Hr.out)).mono ?_
  rintro e w2 ⟨rfl, hb⟩
  have Hx' := Lib.hid (bblock hb Hx.out); clear Hx; have Hx := Hx'; clear Hx'
  have Hp' := Lib.hid (bblock hb Hp.out); clear Hp; have Hp := Hp'; clear Hp'
  have Hh' := Lib.hid (bblock hb Hh.out); clear Hh; have Hh := Hh'; clear Hh'
  have Hf' := Lib.hid (bblock hb Hf.out); clear Hf; have Hf := Hf'; clear Hf'
  have Hr' := Lib.hid (bblock hb Hr.out); clear Hr; have Hr := Hr'; clear Hr'
  have HAx' := Lib.hid (HAx.out.below hb); clear HAx; have HAx := HAx'; clear HAx'
  have HB' := below_call HB hb; clear HB hb; have HB := HB'; clear HB'; have hz2 := HB.size
  have lt_x_2 := blk_lt Hx.out
  have lt_p_2 := blk_lt Hp.out
  have lt_h_2 := blk_lt Hh.out
  have lt_f_2 := blk_lt Hf.out
  have lt_r_2 := blk_lt Hr.out
  clear Hf Hr HLk HPk
  have Sx := cells6 Hx.out
  obtain ⟨⟨qx0, qx1, qx2, qx3, qx4, qx5⟩, zx0, zx1, zx2, zx3, zx4, zx5⟩ := Sx
  have lt_x := blk_lt Hx.out
  go_wp2_with fail
  refine (HX.out _ HAx.out).mono ?_
  rintro e w3 ⟨A1, c1, rfl, hr1, hb⟩
  clear qx0 zx0 qx1 zx1 qx2 zx2 qx3 zx3 qx4 zx4 qx5 zx5
  have Hx' := Lib.hid (bblock hb Hx.out); clear Hx; have Hx := Hx'; clear Hx'
  have Hp' := Lib.hid (bblock hb Hp.out); clear Hp; have Hp := Hp'; clear Hp'
  have Hh' := Lib.hid (bblock hb Hh.out); clear Hh; have Hh := Hh'; clear Hh'
  have HAx' := Lib.hid (HAx.out.below hb); clear HAx; have HAx := HAx'; clear HAx'
  have HB' := below_call HB hb; clear HB hb; have HB := HB'; clear HB'; have hz3 := HB.size
  have lt_x_3 := blk_lt Hx.out
  have lt_p_3 := blk_lt Hp.out
  have lt_h_3 := blk_lt Hh.out
  have Hr1 := Lib.hid hr1; clear hr1
  go_wp2_with fail
  refine (HE.out _ _ _ _ Hr1.out).mono ?_
  rintro e w4 ⟨rfl, hb⟩
  have Hx' := Lib.hid (bblock hb Hx.out); clear Hx; have Hx := Hx'; clear Hx'
  have Hp' := Lib.hid (bblock hb Hp.out); clear Hp; have Hp := Hp'; clear Hp'
  have Hh' := Lib.hid (bblock hb Hh.out); clear Hh; have Hh := Hh'; clear Hh'
  have HAx' := Lib.hid (HAx.out.below hb); clear HAx; have HAx := HAx'; clear HAx'
  have Hr1' := Lib.hid (Hr1.out.below hb); clear Hr1; have Hr1 := Hr1'; clear Hr1'
  have HB' := below_call HB hb; clear HB hb; have HB := HB'; clear HB'; have hz4 := HB.size
  have lt_x_4 := blk_lt Hx.out
  have lt_p_4 := blk_lt Hp.out
  have lt_h_4 := blk_lt Hh.out
  clear Hr1 HE
  go_wp2_with fail
  refine (HUE.out _).mono ?_
  rintro e w5 ⟨rfl, hb⟩
  have Hx' := Lib.hid (bblock hb Hx.out); clear Hx; have Hx := Hx'; clear Hx'
  have Hp' := Lib.hid (bblock hb Hp.out); clear Hp; have Hp := Hp'; clear Hp'
  have Hh' := Lib.hid (bblock hb Hh.out); clear Hh; have Hh := Hh'; clear Hh'
  have HAx' := Lib.hid (HAx.out.below hb); clear HAx; have HAx := HAx'; clear HAx'
  have HB' := below_call HB hb; clear HB hb; have HB := HB'; clear HB'; have hz5 := HB.size
  have lt_x_5 := blk_lt Hx.out
  have lt_p_5 := blk_lt Hp.out
  have lt_h_5 := blk_lt Hh.out
  clear HUE
  go_wp2_with fail
  refine (HEn.out _).mono ?_
  rintro e w6 ⟨rfl, hb⟩
  have Hx' := Lib.hid (bblock hb Hx.out); clear Hx; have Hx := Hx'; clear Hx'
  have Hp' := Lib.hid (bblock hb Hp.out); clear Hp; have Hp := Hp'; clear Hp'
  have Hh' := Lib.hid (bblock hb Hh.out); clear Hh; have Hh := Hh'; clear Hh'
  have HAx' := Lib.hid (HAx.out.below hb); clear HAx; have HAx := HAx'; clear HAx'
  have HB' := below_call HB hb; clear HB hb; have HB := HB'; clear HB'; have hz6 := HB.size
  have lt_x_6 := blk_lt Hx.out
  have lt_p_6 := blk_lt Hp.out
  have lt_h_6 := blk_lt Hh.out
  clear HEn
  have Sh := cells5 Hh.out
  obtain ⟨⟨qh0, qh1, qh2, qh3, qh4⟩, zh0, zh1, zh2, zh3, zh4⟩ := Sh
  have lt_h := blk_lt Hh.out
  go_wp2_with fail
  clear qh0 zh0 qh1 zh1 qh2 zh2 qh3 zh3 qh4 zh4
  obtain ⟨b0, rfl⟩ : ∃ wo : World, wo = w6 := ⟨_, rfl⟩
  refine (Ar.new_any 167772161 (1 + (y0 : Int)) _).mono ?_
  rintro e wn (⟨-, -, rfl, rfl⟩ | ⟨hb, -, -⟩)
  case inr =>
    exfalso
    rcases hb with hb | hb
    · revert hb; decide
    · unfold Ar.umacB at hb; have := of_decide_eq_false hb; omega
  have HO := Lib.hid (OneA.ofNew (Below.refl b0.heap.size b0) 167772161 (1 + (y0 : Int)))
  have HB0 := Lib.hid HB; clear HB
  generalize b0.alloc (.cells #[.int .i64 167772161, .int .i64 (1 + (y0 : Int)), .map none, .bool false, .int .i64 0] 167) = wt at *
  have hRs : (⟨R.toArray⟩ : ByteArray).size ≤ 1024 := by show R.length ≤ _; omega
  have HSd : Hid (Calls Tryz.prog 22 #[.pointer (some ⟨b0.heap.size, 0, none⟩), .int .i64 0, .int .i64 167772414, .string ⟨R.toArray⟩] wt fun x W' => ∃ (B : Option Addr) (k : Nat), x = .returned (.tuple #[.int .i64 0, .slice B 1 k, .int .i64 0]) ∧ MRow W' wt.heap.size B k [⟨1, 167772161, 1 + (y0 : Int), 167772414, 0⟩] ∧ OneA b0 b0.heap.size ⟨167772161, 1 + (y0 : Int), false, 0⟩ [(167772414, .inc [⟨R.toArray⟩] 1 0 0)] (fun q => (q < b0.heap.size ∧ q < wt.heap.size) ∨ Ar.BK B q) W' ∧ Ar.Kept (fun q => q < b0.heap.size) wt W') := Lib.hid (HO.out.send 0 167772414 ⟨R.toArray⟩ _ _ _ _ (send63 (1 + (y0 : Int)) ⟨R.toArray⟩ hRs) (by show R.length ≤ _; omega) ⟨by omega, by omega⟩ (by simp))
  go_wp2_with fail
  refine HSd.out.mono ?_
  rintro e ws ⟨B, kB, rfl, hmr, hO, -⟩
  clear HSd HO
  have HO := Lib.hid hO; clear hO
  obtain ⟨gB, rfl, -⟩ := hmr.addr (by simp)
  obtain ⟨r0, r1, r2, r3, r4⟩ := Ar.MRow.cells hmr (i := 0) rfl
  simp only [Nat.zero_mul, Nat.zero_add] at r0 r1 r2 r3 r4
  have hgB := (hmr.bk' ⟨_, rfl, rfl⟩).2
  clear hmr
  have hh := bblock HO.out.bel Hh.out; have hh0 := (cell_of_block (k := 0) hh rfl).1; have hhl := blk_lt hh
  have hp := bblock HO.out.bel Hp.out; have hp1 := (cell_of_block (k := 1) hp rfl).1; have hpl := blk_lt hp
  have hao : (⟨2, 167772414, 1 + (y1 : Int), 167772161, 1 + (y0 : Int)⟩ : Ar.Am).ok := by unfold Ar.Am.ok; dsimp only; omega
  have HAE := Lib.hid fun W => Ar.encode_ok 2 167772414 (1 + (y1 : Int)) 167772161 (1 + (y0 : Int)) W hao
  have HAD : Hid (∀ W, Calls Tryz.prog 24 #[.string ⟨(Ar.encM ⟨2, 167772414, 1 + (y1 : Int), 167772161, 1 + (y0 : Int)⟩).toArray⟩] W fun e w' => e = .returned (.tuple #[.agg #[.int .i64 2, .int .i64 167772414, .int .i64 (1 + (y1 : Int)), .int .i64 167772161, .int .i64 (1 + (y0 : Int))], .int .i64 0]) ∧ Below W.heap.size W w') := Lib.hid fun W => by have := Ar.decode_13 ⟨(Ar.encM ⟨2, 167772414, 1 + (y1 : Int), 167772161, 1 + (y0 : Int)⟩).toArray⟩ W (by show (Ar.encM _).length = 13; exact Ar.encM_len _); rwa [Ar.dec_enc _ hao] at this
  generalize Ar.encM ⟨2, 167772414, 1 + (y1 : Int), 167772161, 1 + (y0 : Int)⟩ = EA at *
  clear hao
  go_wp2_with fail
  clear r0 r1 r2 r3 r4 hgB hh hh0 hhl hp hp1 hpl
  refine (HAE.out _).mono ?_
  rintro e v1 ⟨rfl, hb1⟩
  have HO1 := Lib.hid (HO.out.below hb1); clear HO hb1; have HO := HO1; clear HO1
  go_wp2_with fail
  refine (HAD.out _).mono ?_
  rintro e v2 ⟨rfl, hb2⟩
  have HO1 := Lib.hid ((HO.out.below hb2).below ((Below.refl v2.heap.size v2).alloc (Nat.le_refl _) (.cells #[.int .i64 2, .int .i64 167772414, .int .i64 (1 + (y1 : Int)), .int .i64 167772161, .int .i64 (1 + (y0 : Int))] 79))); clear HO hb2; have HO := HO1; clear HO1
  have Hg := Lib.hid (alloc_new v2 (.cells #[.int .i64 2, .int .i64 167772414, .int .i64 (1 + (y1 : Int)), .int .i64 167772161, .int .i64 (1 + (y0 : Int))] 79))
  have g0 := (cell_of_block (k := 0) Hg.out rfl).1; have g1 := (cell_of_block (k := 1) Hg.out rfl).1; have g2 := (cell_of_block (k := 2) Hg.out rfl).1; have g3 := (cell_of_block (k := 3) Hg.out rfl).1; have g4 := (cell_of_block (k := 4) Hg.out rfl).1
  clear HAE HAD
  have HRv := Lib.hid (HO.out.recv 1 2 167772414 (1 + (y1 : Int)) 167772161 (1 + (y0 : Int)) _ _ _ _ (recv63 (1 + (y0 : Int)) (1 + (y1 : Int)) ⟨R.toArray⟩ (by omega) (by omega)) ⟨by omega, by omega⟩ ⟨by show (-9223372036854775808 : Int) ≤ 0; omega, by show (0 : Int) ≤ 9223372036854775807; omega⟩)
  go_wp2_with fail
  refine HRv.out.mono ?_
  rintro e v3 ⟨B2, k2, D, dD, rfl, -, hhr, hO, -⟩
  clear HRv HO g0 g1 g2 g3 g4 Hg
  have HO := Lib.hid hO; clear hO
  obtain ⟨gD, rfl, hgD0⟩ := hhr.addr (by simp)
  obtain ⟨r0, r1, r2⟩ := Ar.HRow.cells hhr (i := 0) rfl
  simp only [Nat.zero_mul, Nat.zero_add] at r0 r1 r2
  have hgD := (hhr.bk' ⟨_, rfl, rfl⟩).2
  dsimp only [List.length_cons, List.length_nil]
  have hb := HO.out.bel
  have HB := HB0.out; clear HB0
  clear hhr HO hgD0
  have Hx' := Lib.hid (bblock hb Hx.out); clear Hx; have Hx := Hx'; clear Hx'
  have Hp' := Lib.hid (bblock hb Hp.out); clear Hp; have Hp := Hp'; clear Hp'
  have Hh' := Lib.hid (bblock hb Hh.out); clear Hh; have Hh := Hh'; clear Hh'
  have HAx' := Lib.hid (HAx.out.below hb); clear HAx; have HAx := HAx'; clear HAx'
  have HB' := below_call HB hb; clear HB hb; have HB := HB'; clear HB'; have hz := HB.size
  go_upto_region 25 with fail
  have gr1 : Hid (v3.cell? ⟨gD, 1, none⟩ = some (.int .i64 (1 + (y1 : Int)))) := Lib.hid r1
  have gr2 : Hid (v3.cell? ⟨gD, 2, none⟩ = some (.string ⟨R.toArray⟩)) := Lib.hid r2
  have hfok : Hid (Lk.FrOk (1 + (y1 : Int)) (1 + (y0 : Int)) 2 R.length) := Lib.hid ⟨by omega, by omega, .inr rfl, by omega⟩
  clear r0 r1 r2
  have HR := Below.refl v3.heap.size v3
  have gh0 : Hid (v3.cell? ⟨w1s.heap.size, 0, none⟩ = some (.int .i64 (1 + (y0 : Int)))) := Lib.hid (cell_of_block (k := 0) Hh.out rfl).1
  go_region_held3 (fun w' => w'.cell? ⟨w1s.heap.size, 0, none⟩ = some (.int .i64 (1 + (y0 : Int))) ∧ w'.cell? ⟨gD, 1, none⟩ = some (.int .i64 (1 + (y1 : Int))) ∧ w'.cell? ⟨gD, 2, none⟩ = some (.string ⟨R.toArray⟩) ∧ Below v3.heap.size v3 w') (first | with_reducible exact ⟨bcell (hRve1.out) gh0.out, bcell (hRve1.out) gr1.out, bcell (hRve1.out) gr2.out, hRve1.out⟩ | exact ⟨gh0.out, gr1.out, gr2.out, HR.drew⟩)
    ((go_at_call 14; refine (Lk.encode_fr (1 + (y1 : Int)) (1 + (y0 : Int)) 2 R _ a0 (HG.out.below (below_call HB HR.drew)) hfok.out).mono ?_; rintro e ve1 ⟨rfl, hbve1⟩; have hRve1 := Lib.hid (below_call HR.drew hbve1)))
  have hb := hRve1.out
  clear HR hRve1 hbve1 gh0
  have Hx' := Lib.hid (bblock hb Hx.out); clear Hx; have Hx := Hx'; clear Hx'
  have Hp' := Lib.hid (bblock hb Hp.out); clear Hp; have Hp := Hp'; clear Hp'
  have Hh' := Lib.hid (bblock hb Hh.out); clear Hh; have Hh := Hh'; clear Hh'
  have HAx' := Lib.hid (HAx.out.below hb); clear HAx; have HAx := HAx'; clear HAx'
  have HB' := below_call HB hb; clear HB hb; have HB := HB'; clear HB'; have hz := HB.size
  clear gr1 gr2
  have HDF := Lib.hid (Lk.decode_fr (1 + (y1 : Int)) (1 + (y0 : Int)) 2 R _ a0 (HG.out.below HB) hfok.out)
  generalize Lk.fenc (1 + (y1 : Int)) (1 + (y0 : Int)) 2 R = TL at *
  go_wp2_with fail
  refine (HDF.out).mono ?_
  rintro e w11 ⟨rfl, hb⟩
  have Hx' := Lib.hid (bblock hb Hx.out); clear Hx; have Hx := Hx'; clear Hx'
  have Hp' := Lib.hid (bblock hb Hp.out); clear Hp; have Hp := Hp'; clear Hp'
  have Hh' := Lib.hid (bblock hb Hh.out); clear Hh; have Hh := Hh'; clear Hh'
  have HAx' := Lib.hid (HAx.out.below hb); clear HAx; have HAx := HAx'; clear HAx'
  have HB' := below_call HB hb; clear HB hb; have HB := HB'; clear HB'; have hz11 := HB.size
  have lt_x_11 := blk_lt Hx.out
  have lt_p_11 := blk_lt Hp.out
  have lt_h_11 := blk_lt Hh.out
  have Hfr := Lib.hid (alloc_new' w11 (.cells #[.int .i64 (1 + (y1 : Int)), .int .i64 (1 + (y0 : Int)), .int .i64 2, .string ⟨R.toArray⟩] 56) (w11.heap.size) (by simp))
  have Hx' := Lib.hid (block_alloc Hx.out (.cells #[.int .i64 (1 + (y1 : Int)), .int .i64 (1 + (y0 : Int)), .int .i64 2, .string ⟨R.toArray⟩] 56)); clear Hx; have Hx := Hx'; clear Hx'
  have Hp' := Lib.hid (block_alloc Hp.out (.cells #[.int .i64 (1 + (y1 : Int)), .int .i64 (1 + (y0 : Int)), .int .i64 2, .string ⟨R.toArray⟩] 56)); clear Hp; have Hp := Hp'; clear Hp'
  have Hh' := Lib.hid (block_alloc Hh.out (.cells #[.int .i64 (1 + (y1 : Int)), .int .i64 (1 + (y0 : Int)), .int .i64 2, .string ⟨R.toArray⟩] 56)); clear Hh; have Hh := Hh'; clear Hh'
  have HAx' := Lib.hid (HAx.out.alloc (.cells #[.int .i64 (1 + (y1 : Int)), .int .i64 (1 + (y0 : Int)), .int .i64 2, .string ⟨R.toArray⟩] 56)); clear HAx; have HAx := HAx'; clear HAx'
  have HB' := below_alloc (o := .cells #[.int .i64 (1 + (y1 : Int)), .int .i64 (1 + (y0 : Int)), .int .i64 2, .string ⟨R.toArray⟩] 56) HB; clear HB; have HB := HB'; clear HB'
  have Sfr := cells4 Hfr.out
  obtain ⟨⟨qfr0, qfr1, qfr2, qfr3⟩, zfr0, zfr1, zfr2, zfr3⟩ := Sfr
  have lt_fr := blk_lt Hfr.out
  go_wp2_with fail
  refine (HDk.out _).mono ?_
  rintro e w12 ⟨rfl, hb⟩
  clear qfr0 zfr0 qfr1 zfr1 qfr2 zfr2 qfr3 zfr3
  have Hx' := Lib.hid (bblock hb Hx.out); clear Hx; have Hx := Hx'; clear Hx'
  have Hp' := Lib.hid (bblock hb Hp.out); clear Hp; have Hp := Hp'; clear Hp'
  have Hh' := Lib.hid (bblock hb Hh.out); clear Hh; have Hh := Hh'; clear Hh'
  have Hfr' := Lib.hid (bblock hb Hfr.out); clear Hfr; have Hfr := Hfr'; clear Hfr'
  have HAx' := Lib.hid (HAx.out.below hb); clear HAx; have HAx := HAx'; clear HAx'
  have HB' := below_call HB hb; clear HB hb; have HB := HB'; clear HB'; have hz12 := HB.size
  have lt_x_12 := blk_lt Hx.out
  have lt_p_12 := blk_lt Hp.out
  have lt_h_12 := blk_lt Hh.out
  have lt_fr_12 := blk_lt Hfr.out
  have Hpk := Lib.hid (alloc_new' w12 (.cells #[.int .i64 167772161, .int .i64 (3232235520 + kk), .int .i64 17, .int .i64 32, .int .i64 1, .bool false, .bool false, .int .i64 0, .string ⟨U.toArray⟩] 48) (w12.heap.size) (by simp))
  have Hx' := Lib.hid (block_alloc Hx.out (.cells #[.int .i64 167772161, .int .i64 (3232235520 + kk), .int .i64 17, .int .i64 32, .int .i64 1, .bool false, .bool false, .int .i64 0, .string ⟨U.toArray⟩] 48)); clear Hx; have Hx := Hx'; clear Hx'
  have Hp' := Lib.hid (block_alloc Hp.out (.cells #[.int .i64 167772161, .int .i64 (3232235520 + kk), .int .i64 17, .int .i64 32, .int .i64 1, .bool false, .bool false, .int .i64 0, .string ⟨U.toArray⟩] 48)); clear Hp; have Hp := Hp'; clear Hp'
  have Hh' := Lib.hid (block_alloc Hh.out (.cells #[.int .i64 167772161, .int .i64 (3232235520 + kk), .int .i64 17, .int .i64 32, .int .i64 1, .bool false, .bool false, .int .i64 0, .string ⟨U.toArray⟩] 48)); clear Hh; have Hh := Hh'; clear Hh'
  have Hfr' := Lib.hid (block_alloc Hfr.out (.cells #[.int .i64 167772161, .int .i64 (3232235520 + kk), .int .i64 17, .int .i64 32, .int .i64 1, .bool false, .bool false, .int .i64 0, .string ⟨U.toArray⟩] 48)); clear Hfr; have Hfr := Hfr'; clear Hfr'
  have HAx' := Lib.hid (HAx.out.alloc (.cells #[.int .i64 167772161, .int .i64 (3232235520 + kk), .int .i64 17, .int .i64 32, .int .i64 1, .bool false, .bool false, .int .i64 0, .string ⟨U.toArray⟩] 48)); clear HAx; have HAx := HAx'; clear HAx'
  have HB' := below_alloc (o := .cells #[.int .i64 167772161, .int .i64 (3232235520 + kk), .int .i64 17, .int .i64 32, .int .i64 1, .bool false, .bool false, .int .i64 0, .string ⟨U.toArray⟩] 48) HB; clear HB; have HB := HB'; clear HB'
  have Spk := cells9 Hpk.out
  obtain ⟨⟨qpk0, qpk1, qpk2, qpk3, qpk4, qpk5, qpk6, qpk7, qpk8⟩, zpk0, zpk1, zpk2, zpk3, zpk4, zpk5, zpk6, zpk7, zpk8⟩ := Spk
  have lt_pk := blk_lt Hpk.out
  go_wp2_with fail
  refine (HUD.out _).mono ?_
  rintro e w13 ⟨rfl, hb⟩
  clear qpk0 zpk0 qpk1 zpk1 qpk2 zpk2 qpk3 zpk3 qpk4 zpk4 qpk5 zpk5 qpk6 zpk6 qpk7 zpk7 qpk8 zpk8
  have Hx' := Lib.hid (bblock hb Hx.out); clear Hx; have Hx := Hx'; clear Hx'
  have Hp' := Lib.hid (bblock hb Hp.out); clear Hp; have Hp := Hp'; clear Hp'
  have Hh' := Lib.hid (bblock hb Hh.out); clear Hh; have Hh := Hh'; clear Hh'
  have Hfr' := Lib.hid (bblock hb Hfr.out); clear Hfr; have Hfr := Hfr'; clear Hfr'
  have Hpk' := Lib.hid (bblock hb Hpk.out); clear Hpk; have Hpk := Hpk'; clear Hpk'
  have HAx' := Lib.hid (HAx.out.below hb); clear HAx; have HAx := HAx'; clear HAx'
  have HB' := below_call HB hb; clear HB hb; have HB := HB'; clear HB'; have hz13 := HB.size
  have lt_x_13 := blk_lt Hx.out
  have lt_p_13 := blk_lt Hp.out
  have lt_h_13 := blk_lt Hh.out
  have lt_fr_13 := blk_lt Hfr.out
  have lt_pk_13 := blk_lt Hpk.out
  clear Hpk
  have Hv := Lib.hid (alloc_new' w13 (.cells #[.int .i64 20101, .int .i64 53, .string ⟨E.toArray⟩] 43) (w13.heap.size) (by simp))
  have Hx' := Lib.hid (block_alloc Hx.out (.cells #[.int .i64 20101, .int .i64 53, .string ⟨E.toArray⟩] 43)); clear Hx; have Hx := Hx'; clear Hx'
  have Hp' := Lib.hid (block_alloc Hp.out (.cells #[.int .i64 20101, .int .i64 53, .string ⟨E.toArray⟩] 43)); clear Hp; have Hp := Hp'; clear Hp'
  have Hh' := Lib.hid (block_alloc Hh.out (.cells #[.int .i64 20101, .int .i64 53, .string ⟨E.toArray⟩] 43)); clear Hh; have Hh := Hh'; clear Hh'
  have Hfr' := Lib.hid (block_alloc Hfr.out (.cells #[.int .i64 20101, .int .i64 53, .string ⟨E.toArray⟩] 43)); clear Hfr; have Hfr := Hfr'; clear Hfr'
  have HAx' := Lib.hid (HAx.out.alloc (.cells #[.int .i64 20101, .int .i64 53, .string ⟨E.toArray⟩] 43)); clear HAx; have HAx := HAx'; clear HAx'
  have HB' := below_alloc (o := .cells #[.int .i64 20101, .int .i64 53, .string ⟨E.toArray⟩] 43) HB; clear HB; have HB := HB'; clear HB'
  have Sv := cells3 Hv.out
  obtain ⟨⟨qv0, qv1, qv2⟩, zv0, zv1, zv2⟩ := Sv
  have lt_v := blk_lt Hv.out
  go_wp2_with fail
  refine (HD.out _).mono ?_
  rintro e w14 ⟨⟨A3, c3, rfl, hr3⟩, hb⟩
  clear qv0 zv0 qv1 zv1 qv2 zv2
  have Hx' := Lib.hid (bblock hb Hx.out); clear Hx; have Hx := Hx'; clear Hx'
  have Hp' := Lib.hid (bblock hb Hp.out); clear Hp; have Hp := Hp'; clear Hp'
  have Hh' := Lib.hid (bblock hb Hh.out); clear Hh; have Hh := Hh'; clear Hh'
  have Hfr' := Lib.hid (bblock hb Hfr.out); clear Hfr; have Hfr := Hfr'; clear Hfr'
  have Hv' := Lib.hid (bblock hb Hv.out); clear Hv; have Hv := Hv'; clear Hv'
  have HAx' := Lib.hid (HAx.out.below hb); clear HAx; have HAx := HAx'; clear HAx'
  have HB' := below_call HB hb; clear HB hb; have HB := HB'; clear HB'; have hz14 := HB.size
  have lt_x_14 := blk_lt Hx.out
  have lt_p_14 := blk_lt Hp.out
  have lt_h_14 := blk_lt Hh.out
  have lt_fr_14 := blk_lt Hfr.out
  have lt_v_14 := blk_lt Hv.out
  have Hr3 := Lib.hid hr3; clear hr3
  have Hd := Lib.hid (alloc_new' w14 (.cells #[.int .i64 d1.id, .bool d1.ans, .int .i64 d1.code, .string ⟨d1.nm.toArray⟩, .int .i64 d1.kd, .slice A3 d1.recs.length c3] 39) (w14.heap.size) (by simp))
  have Hx' := Lib.hid (block_alloc Hx.out (.cells #[.int .i64 d1.id, .bool d1.ans, .int .i64 d1.code, .string ⟨d1.nm.toArray⟩, .int .i64 d1.kd, .slice A3 d1.recs.length c3] 39)); clear Hx; have Hx := Hx'; clear Hx'
  have Hp' := Lib.hid (block_alloc Hp.out (.cells #[.int .i64 d1.id, .bool d1.ans, .int .i64 d1.code, .string ⟨d1.nm.toArray⟩, .int .i64 d1.kd, .slice A3 d1.recs.length c3] 39)); clear Hp; have Hp := Hp'; clear Hp'
  have Hh' := Lib.hid (block_alloc Hh.out (.cells #[.int .i64 d1.id, .bool d1.ans, .int .i64 d1.code, .string ⟨d1.nm.toArray⟩, .int .i64 d1.kd, .slice A3 d1.recs.length c3] 39)); clear Hh; have Hh := Hh'; clear Hh'
  have Hfr' := Lib.hid (block_alloc Hfr.out (.cells #[.int .i64 d1.id, .bool d1.ans, .int .i64 d1.code, .string ⟨d1.nm.toArray⟩, .int .i64 d1.kd, .slice A3 d1.recs.length c3] 39)); clear Hfr; have Hfr := Hfr'; clear Hfr'
  have Hv' := Lib.hid (block_alloc Hv.out (.cells #[.int .i64 d1.id, .bool d1.ans, .int .i64 d1.code, .string ⟨d1.nm.toArray⟩, .int .i64 d1.kd, .slice A3 d1.recs.length c3] 39)); clear Hv; have Hv := Hv'; clear Hv'
  have HAx' := Lib.hid (HAx.out.alloc (.cells #[.int .i64 d1.id, .bool d1.ans, .int .i64 d1.code, .string ⟨d1.nm.toArray⟩, .int .i64 d1.kd, .slice A3 d1.recs.length c3] 39)); clear HAx; have HAx := HAx'; clear HAx'
  have Hr3' := Lib.hid (Hr3.out.alloc (.cells #[.int .i64 d1.id, .bool d1.ans, .int .i64 d1.code, .string ⟨d1.nm.toArray⟩, .int .i64 d1.kd, .slice A3 d1.recs.length c3] 39)); clear Hr3; have Hr3 := Hr3'; clear Hr3'
  have HB' := below_alloc (o := .cells #[.int .i64 d1.id, .bool d1.ans, .int .i64 d1.code, .string ⟨d1.nm.toArray⟩, .int .i64 d1.kd, .slice A3 d1.recs.length c3] 39) HB; clear HB; have HB := HB'; clear HB'
  have Sv := cells3 Hv.out
  obtain ⟨⟨qv0, qv1, qv2⟩, zv0, zv1, zv2⟩ := Sv
  have lt_v := blk_lt Hv.out
  go_wp2_with fail
  refine (HGet.out _).mono ?_
  rintro e w15 ⟨rfl, hb⟩
  clear qv0 zv0 qv1 zv1 qv2 zv2
  have Hx' := Lib.hid (bblock hb Hx.out); clear Hx; have Hx := Hx'; clear Hx'
  have Hp' := Lib.hid (bblock hb Hp.out); clear Hp; have Hp := Hp'; clear Hp'
  have Hh' := Lib.hid (bblock hb Hh.out); clear Hh; have Hh := Hh'; clear Hh'
  have Hfr' := Lib.hid (bblock hb Hfr.out); clear Hfr; have Hfr := Hfr'; clear Hfr'
  have Hv' := Lib.hid (bblock hb Hv.out); clear Hv; have Hv := Hv'; clear Hv'
  have Hd' := Lib.hid (bblock hb Hd.out); clear Hd; have Hd := Hd'; clear Hd'
  have HAx' := Lib.hid (HAx.out.below hb); clear HAx; have HAx := HAx'; clear HAx'
  have Hr3' := Lib.hid (Hr3.out.below hb); clear Hr3; have Hr3 := Hr3'; clear Hr3'
  have HB' := below_call HB hb; clear HB hb; have HB := HB'; clear HB'; have hz15 := HB.size
  have lt_x_15 := blk_lt Hx.out
  have lt_p_15 := blk_lt Hp.out
  have lt_h_15 := blk_lt Hh.out
  have lt_fr_15 := blk_lt Hfr.out
  have lt_v_15 := blk_lt Hv.out
  have lt_d_15 := blk_lt Hd.out
  go_upto_region 31 with fail
  have HR := Below.refl w15.heap.size w15
  have gd0 : Hid (w15.cell? ⟨w14.heap.size, 0, none⟩ = some (.int .i64 d1.id)) := Lib.hid (cell_of_block (k := 0) Hd.out rfl).1
  have gd1 : Hid (w15.cell? ⟨w14.heap.size, 1, none⟩ = some (.bool d1.ans)) := Lib.hid (cell_of_block (k := 1) Hd.out rfl).1
  have gd2 : Hid (w15.cell? ⟨w14.heap.size, 2, none⟩ = some (.int .i64 d1.code)) := Lib.hid (cell_of_block (k := 2) Hd.out rfl).1
  have gd3 : Hid (w15.cell? ⟨w14.heap.size, 3, none⟩ = some (.string ⟨d1.nm.toArray⟩)) := Lib.hid (cell_of_block (k := 3) Hd.out rfl).1
  have gd4 : Hid (w15.cell? ⟨w14.heap.size, 4, none⟩ = some (.int .i64 d1.kd)) := Lib.hid (cell_of_block (k := 4) Hd.out rfl).1
  have gd5 : Hid (w15.cell? ⟨w14.heap.size, 5, none⟩ = some (.slice A3 d1.recs.length c3)) := Lib.hid (cell_of_block (k := 5) Hd.out rfl).1
  have gx0 : Hid (w15.cell? ⟨w.heap.size, 0, none⟩ = some (.int .i64 x.id)) := Lib.hid (cell_of_block (k := 0) Hx.out rfl).1
  have gx1 : Hid (w15.cell? ⟨w.heap.size, 1, none⟩ = some (.bool false)) := Lib.hid (cell_of_block (k := 1) Hx.out rfl).1
  have gx2 : Hid (w15.cell? ⟨w.heap.size, 2, none⟩ = some (.int .i64 x.code)) := Lib.hid (cell_of_block (k := 2) Hx.out rfl).1
  have gx3 : Hid (w15.cell? ⟨w.heap.size, 3, none⟩ = some (.int .i64 x.nm)) := Lib.hid (cell_of_block (k := 3) Hx.out rfl).1
  have gx4 : Hid (w15.cell? ⟨w.heap.size, 4, none⟩ = some (.bool x.alias)) := Lib.hid (cell_of_block (k := 4) Hx.out rfl).1
  have gx5 : Hid (w15.cell? ⟨w.heap.size, 5, none⟩ = some (.slice Ax nx cx)) := Lib.hid (cell_of_block (k := 5) Hx.out rfl).1
  have gfr0 : Hid (w15.cell? ⟨w11.heap.size, 0, none⟩ = some (.int .i64 (1 + (y1 : Int)))) := Lib.hid (cell_of_block (k := 0) Hfr.out rfl).1
  go_region_held3 (fun w' => w'.cell? ⟨w14.heap.size, 0, none⟩ = some (.int .i64 d1.id) ∧ w'.cell? ⟨w14.heap.size, 1, none⟩ = some (.bool d1.ans) ∧ w'.cell? ⟨w14.heap.size, 2, none⟩ = some (.int .i64 d1.code) ∧ w'.cell? ⟨w14.heap.size, 3, none⟩ = some (.string ⟨d1.nm.toArray⟩) ∧ w'.cell? ⟨w14.heap.size, 4, none⟩ = some (.int .i64 d1.kd) ∧ w'.cell? ⟨w14.heap.size, 5, none⟩ = some (.slice A3 d1.recs.length c3) ∧ w'.cell? ⟨w.heap.size, 0, none⟩ = some (.int .i64 x.id) ∧ w'.cell? ⟨w.heap.size, 1, none⟩ = some (.bool false) ∧ w'.cell? ⟨w.heap.size, 2, none⟩ = some (.int .i64 x.code) ∧ w'.cell? ⟨w.heap.size, 3, none⟩ = some (.int .i64 x.nm) ∧ w'.cell? ⟨w.heap.size, 4, none⟩ = some (.bool x.alias) ∧ w'.cell? ⟨w.heap.size, 5, none⟩ = some (.slice Ax nx cx) ∧ w'.cell? ⟨w11.heap.size, 0, none⟩ = some (.int .i64 (1 + (y1 : Int))) ∧ Below w15.heap.size w15 w') (first | with_reducible exact ⟨bcell (hRz2.out) gd0.out, bcell (hRz2.out) gd1.out, bcell (hRz2.out) gd2.out, bcell (hRz2.out) gd3.out, bcell (hRz2.out) gd4.out, bcell (hRz2.out) gd5.out, bcell (hRz2.out) gx0.out, bcell (hRz2.out) gx1.out, bcell (hRz2.out) gx2.out, bcell (hRz2.out) gx3.out, bcell (hRz2.out) gx4.out, bcell (hRz2.out) gx5.out, bcell (hRz2.out) gfr0.out, hRz2.out⟩ | with_reducible exact ⟨bcell (hRz1.out) gd0.out, bcell (hRz1.out) gd1.out, bcell (hRz1.out) gd2.out, bcell (hRz1.out) gd3.out, bcell (hRz1.out) gd4.out, bcell (hRz1.out) gd5.out, bcell (hRz1.out) gx0.out, bcell (hRz1.out) gx1.out, bcell (hRz1.out) gx2.out, bcell (hRz1.out) gx3.out, bcell (hRz1.out) gx4.out, bcell (hRz1.out) gx5.out, bcell (hRz1.out) gfr0.out, hRz1.out⟩ | exact ⟨gd0.out, gd1.out, gd2.out, gd3.out, gd4.out, gd5.out, gx0.out, gx1.out, gx2.out, gx3.out, gx4.out, gx5.out, gfr0.out, HR.drew⟩)
    (first | (go_at_call 19; have _t := hRz1; clear _t; refine (HS.out _ _ _ _ _ _ _ (SRow.below Hr3.out hRz1.out) hr5).mono ?_; rintro e z2 ⟨rfl, hbz2⟩; have hRz2 := Lib.hid (below_call hRz1.out hbz2)) | (go_at_call 8; refine (HX.out _ (HAx.out.below HR.drew)).mono ?_; rintro e z1 ⟨A5, c5, rfl, hr5, hbz1⟩; have hRz1 := Lib.hid (below_call HR.drew hbz1)))
  have hb := hRz2.out
  clear HR hRz1 hbz1 hRz2 hbz2 gd0 gd1 gd2 gd3 gd4 gd5 gx0 gx1 gx2 gx3 gx4 gx5 gfr0
  have Hx' := Lib.hid (bblock hb Hx.out); clear Hx; have Hx := Hx'; clear Hx'
  have Hp' := Lib.hid (bblock hb Hp.out); clear Hp; have Hp := Hp'; clear Hp'
  have Hh' := Lib.hid (bblock hb Hh.out); clear Hh; have Hh := Hh'; clear Hh'
  have Hfr' := Lib.hid (bblock hb Hfr.out); clear Hfr; have Hfr := Hfr'; clear Hfr'
  have Hv' := Lib.hid (bblock hb Hv.out); clear Hv; have Hv := Hv'; clear Hv'
  have Hd' := Lib.hid (bblock hb Hd.out); clear Hd; have Hd := Hd'; clear Hd'
  have HAx' := Lib.hid (HAx.out.below hb); clear HAx; have HAx := HAx'; clear HAx'
  have Hr3' := Lib.hid (Hr3.out.below hb); clear Hr3; have Hr3 := Hr3'; clear Hr3'
  have HB' := below_call HB hb; clear HB hb; have HB := HB'; clear HB'; have hz := HB.size
  go_wp2_with fail
  go_ret
  exact ⟨rfl, HB⟩
end Go.Proofs.YtmgjcjacoegocaaGreatDoor.Dn
