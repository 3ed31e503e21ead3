/-
  The contract of the fixed examples of chapter 8: they hold.
-/
import Derived.Test.YtmcfllogcmnnoaaDoorIcL
import Derived.Test.YtmcfllogcmnnoaaDoorPath
namespace Go.Proofs.YtmcfllogcmnnoaaDoor.Ic
set_option maxRecDepth 100000
open Go.RowKit Go.Proofs.YtmcfllogcmnnoaaDoor.Wire
open Go.Proofs.YtmcfllogcmnnoaaDoor.Ip (Pk VLen encP)

def pkA : Pk := { f := 1, t := 2, pr := 17, ttl := 9, id := 0, df := false, mf := false, off := 0, s := ⟨#[48, 49, 50, 51, 52, 53, 54, 55, 56, 57]⟩ }
def pkB (T : ByteArray) : Pk := { f := 2, t := 1, pr := 1, ttl := 9, id := 0, df := false, mf := false, off := 0, s := T }
theorem s_enc : ∀ W, Calls Tryd.prog 14 #[.agg #[.int .i64 1, .int .i64 0, .int .i64 7, .string ⟨#[97]⟩]] W fun e w' => e = .returned (.tuple #[.string ⟨#[1, 0, 157, 248, 0, 0, 0, 7, 97]⟩, .int .i64 0]) ∧ Below W.heap.size W w' := by
  intro W
  have h : MOk 1 0 7 (⟨#[97]⟩ : ByteArray).size := by decide
  have e : (menc 1 0 7 ⟨#[97]⟩).toArray = #[1, 0, 157, 248, 0, 0, 0, 7, 97] := by decide +kernel
  have := encode_ok 1 0 7 ⟨#[97]⟩ W h
  rwa [e] at this
theorem s_dec (a0 a1 : Addr) : ∀ W, GlE W a0 a1 → Calls Tryd.prog 16 #[.string ⟨#[1, 0, 157, 248, 0, 0, 0, 7, 97]⟩] W fun e w' => e = .returned (.tuple #[.agg #[.int .i64 1, .int .i64 0, .int .i64 7, .string ⟨#[97]⟩], .int .i64 0]) ∧ Below W.heap.size W w' := by
  intro W hg
  have h : MOk 1 0 7 (⟨#[97]⟩ : ByteArray).size := by decide
  have e : (menc 1 0 7 ⟨#[97]⟩).toArray = #[1, 0, 157, 248, 0, 0, 0, 7, 97] := by decide +kernel
  obtain ⟨h1, h2⟩ := enc_dcK 1 0 7 ⟨#[97]⟩ h
  rw [e] at h1 h2
  refine (decode_any _ (by decide) a0 a1 W hg).mono ?_
  rintro x w' ⟨hb, ⟨-, rfl⟩ | ⟨q, -⟩⟩
  · exact ⟨by rw [h2], hb⟩
  · exact absurd h1 q
theorem s_dec2 (a0 a1 : Addr) : ∀ W, GlE W a0 a1 → Calls Tryd.prog 16 #[.string (⟨#[1, 0, 157, 248, 0, 0, 0, 7, 97]⟩ ++ ⟨#[98]⟩)] W fun e w' => e = .returned (.tuple #[.agg #[.int .i64 0, .int .i64 0, .int .i64 0, .string ⟨#[]⟩], .int .i64 80]) ∧ Below W.heap.size W w' := by
  intro W hg
  have h1 : ¬ dcK ((⟨#[1, 0, 157, 248, 0, 0, 0, 7, 97]⟩ : ByteArray) ++ ⟨#[98]⟩) := by
    intro q
    have := dcK_ws _ q
    revert this
    decide +kernel
  refine (decode_any _ (by decide) a0 a1 W hg).mono ?_
  rintro x w' ⟨hb, ⟨q, -⟩ | ⟨-, rfl⟩⟩
  · exact absurd q h1
  · exact ⟨rfl, hb⟩
theorem pkA_ok : pkA.ok := by unfold Pk.ok pkA VLen; decide
theorem pkA_ne : neOk 3 4 0 pkA := by
  refine ⟨pkA_ok, rfl, by decide, by decide, by decide, ?_⟩
  rw [quoteP_size]; decide
theorem s_ne : ∀ W, Calls Tryd.prog 24 #[.int .i64 3, .int .i64 4, .int .i64 0, .agg #[.int .i64 1, .int .i64 2, .int .i64 17, .int .i64 9, .int .i64 0, .bool false, .bool false, .int .i64 0, .string ⟨#[48, 49, 50, 51, 52, 53, 54, 55, 56, 57]⟩]] W fun e w' => e = .returned (.tuple #[.agg #[.int .i64 3, .int .i64 4, .int .i64 0, .string (quoteP pkA)], .bool true]) ∧ Below W.heap.size W w' := by
  intro W
  refine (newError_any 3 4 0 pkA W (by decide)).mono ?_
  rintro x w' ⟨⟨-, rfl⟩ | ⟨q, -⟩, hb⟩
  · exact ⟨rfl, hb⟩
  · exact absurd pkA_ne q
theorem s_qu : ∀ W, Calls Tryd.prog 18 #[.agg #[.int .i64 3, .int .i64 4, .int .i64 0, .string (quoteP pkA)]] W fun e w' => e = .returned (.tuple #[.agg #[.int .i64 1, .int .i64 2, .int .i64 17, .int .i64 9, .int .i64 0, .bool false, .bool false, .int .i64 0, .string ⟨#[48, 49, 50, 51, 52, 53, 54, 55]⟩], .bool true]) ∧ Below W.heap.size W w' := by
  intro W
  refine (quoted_any 3 4 0 (quoteP pkA) W (by rw [quoteP_size]; decide)).mono ?_
  rintro x w' ⟨⟨-, rfl⟩ | ⟨q, -⟩, hb⟩
  · exact ⟨by rw [quote_val pkA pkA_ok]; rfl, hb⟩
  · exact absurd (quote_ok pkA_ne) q
theorem s_ne2 (T : ByteArray) (hT : T.size = 36) (h3 : (T.data.toList.getD 0 0).toNat = 3) : ∀ W, Calls Tryd.prog 24 #[.int .i64 3, .int .i64 4, .int .i64 0, .agg #[.int .i64 2, .int .i64 1, .int .i64 1, .int .i64 9, .int .i64 0, .bool false, .bool false, .int .i64 0, .string T]] W fun e w' => e = .returned (.tuple #[.agg #[.int .i64 0, .int .i64 0, .int .i64 0, .string ⟨#[]⟩], .bool false]) ∧ Below W.heap.size W w' := by
  intro W
  refine (newError_any 3 4 0 (pkB T) W (by show T.size ≤ _; omega)).mono ?_
  rintro x w' ⟨⟨q, -⟩ | ⟨-, rfl⟩, hb⟩
  · exfalso
    have h := q.2.2.2.1
    unfold carB pkB at h
    dsimp only at h
    rw [h3, hT] at h
    have e : (decide ((1 : Int) = 1) && (decide (0 < 36) && failB ((3 : Nat) : Int))) = true := by decide
    rw [e] at h
    cases h
  · exact ⟨rfl, hb⟩
theorem s_valid0 : ∀ W, Calls Tryd.prog 20 #[.agg #[.int .i64 0, .int .i64 0, .int .i64 0, .string ⟨#[]⟩]] W fun e w' => e = .returned (.bool false) ∧ Below W.heap.size W w' := fun W => valid_any 0 0 0 ⟨#[]⟩ W (by decide)
theorem s_valid1 : ∀ W, Calls Tryd.prog 20 #[.agg #[.int .i64 1, .int .i64 0, .int .i64 7, .string ⟨#[97]⟩]] W fun e w' => e = .returned (.bool true) ∧ Below W.heap.size W w' := fun W => valid_any 1 0 7 ⟨#[97]⟩ W (by decide)
theorem sz1 : sizeE [⟨5, 500, 0⟩] 599 5 1000 = 500 := by decide
theorem sz2 : sizeE [⟨5, 500, 0⟩] 600 5 1000 = 1000 := by decide
theorem sz3 : sizeE [⟨5, 500, 0⟩] 9 6 1000 = 1000 := by decide
theorem sz4 : sizeE [⟨5, 500, 0⟩] 9 5 400 = 400 := by decide
theorem low1b : lowB [] 0 5 500 = true := by decide
theorem low1l : lowL [] 0 5 500 = [⟨5, 500, 0⟩] := by decide
theorem low2b : lowB [⟨5, 500, 0⟩] 1 5 500 = false := by decide
theorem low2l : lowL [⟨5, 500, 0⟩] 1 5 500 = [⟨5, 500, 0⟩] := by decide
theorem kept1 : Kept [⟨5, 500, 0⟩] := ⟨by decide, by decide, by simp⟩
set_option maxHeartbeats 8000000 in
theorem sane_any (a0 a1 : Addr) (w : World) (hg : GlE w a0 a1) : Calls Tryd.prog 13 #[] w fun e w' => e = .returned (.bool true) ∧ Below w.heap.size w w' := by
  have H1 := Lib.hid s_enc; have H2 := Lib.hid (s_dec a0 a1); have H3 := Lib.hid (s_dec2 a0 a1); have H5 := Lib.hid s_ne; have H6 := Lib.hid s_qu
  have hQ := quoteP_size pkA
  have hQ28 : (quoteP pkA).size = 28 := by rw [hQ]; decide
  clear hQ
  have H7 := Lib.hid fun W => encode_ok 3 4 0 (quoteP pkA) W (by rw [hQ28]; decide)
  have hTs : (⟨(menc 3 4 0 (quoteP pkA)).toArray⟩ : ByteArray).size = 36 := by rw [sz, menc_len, hQ28]
  have H8 := Lib.hid (s_ne2 ⟨(menc 3 4 0 (quoteP pkA)).toArray⟩ hTs (menc_head 3 4 0 (quoteP pkA) (by decide) (by decide)))
  generalize (⟨(menc 3 4 0 (quoteP pkA)).toArray⟩ : ByteArray) = T at *
  generalize quoteP pkA = Q at *
  have HG := Lib.hid hg; clear hg hTs
  go_enter Tryd.func13, Tryd.ntmps13
  have HB := Below.refl w.heap.size w
  go_wp2_with fail
  refine (H1.out _).mono ?_
  rintro e w1 ⟨rfl, hb⟩
  have HB' := below_call HB hb; clear HB hb; have HB := HB'; clear HB'; have hz1 := HB.size
  go_wp2_with fail
  refine (H2.out _ (HG.out.below HB)).mono ?_
  rintro e w2 ⟨rfl, hb⟩
  have HB' := below_call HB hb; clear HB hb; have HB := HB'; clear HB'; have hz2 := HB.size
  have Hm := Lib.hid (alloc_new' w2 (.cells #[.int .i64 1, .int .i64 0, .int .i64 7, .string ⟨#[97]⟩] 23) (w2.heap.size) (by simp))
  have HB' := below_alloc (o := .cells #[.int .i64 1, .int .i64 0, .int .i64 7, .string ⟨#[97]⟩] 23) HB; clear HB; have HB := HB'; clear HB'
  go_wp2_with fail
  refine (H3.out _ (HG.out.below HB)).mono ?_
  rintro e w3 ⟨rfl, hb⟩
  have Hm' := Lib.hid (bblock hb Hm.out); clear Hm; have Hm := Hm'; clear Hm'
  have HB' := below_call HB hb; clear HB hb; have HB := HB'; clear HB'; have hz3 := HB.size
  have lt_m_3 := blk_lt Hm.out
  have Hm' := Lib.hid (block_alloc Hm.out (.cells #[.int .i64 0, .int .i64 0, .int .i64 0, .string ⟨#[]⟩] 23)); clear Hm; have Hm := Hm'; clear Hm'
  have HB' := below_alloc (o := .cells #[.int .i64 0, .int .i64 0, .int .i64 0, .string ⟨#[]⟩] 23) HB; clear HB; have HB := HB'; clear HB'
  have Hp := Lib.hid (alloc_new' (w3.alloc (.cells #[.int .i64 0, .int .i64 0, .int .i64 0, .string ⟨#[]⟩] 23)) (.cells #[.int .i64 1, .int .i64 2, .int .i64 17, .int .i64 9, .int .i64 0, .bool false, .bool false, .int .i64 0, .string ⟨#[48, 49, 50, 51, 52, 53, 54, 55, 56, 57]⟩] 31) (w3.heap.size + 1) (by simp))
  have Hm' := Lib.hid (block_alloc Hm.out (.cells #[.int .i64 1, .int .i64 2, .int .i64 17, .int .i64 9, .int .i64 0, .bool false, .bool false, .int .i64 0, .string ⟨#[48, 49, 50, 51, 52, 53, 54, 55, 56, 57]⟩] 31)); clear Hm; have Hm := Hm'; clear Hm'
  have HB' := below_alloc (o := .cells #[.int .i64 1, .int .i64 2, .int .i64 17, .int .i64 9, .int .i64 0, .bool false, .bool false, .int .i64 0, .string ⟨#[48, 49, 50, 51, 52, 53, 54, 55, 56, 57]⟩] 31) HB; clear HB; have HB := HB'; clear HB'
  have Sp := cells9 Hp.out
  obtain ⟨⟨qp0, qp1, qp2, qp3, qp4, qp5, qp6, qp7, qp8⟩, zp0, zp1, zp2, zp3, zp4, zp5, zp6, zp7, zp8⟩ := Sp
  have lt_p := blk_lt Hp.out
  go_wp2_with fail
  refine (H5.out _).mono ?_
  rintro e w4 ⟨rfl, hb⟩
  clear qp0 zp0 qp1 zp1 qp2 zp2 qp3 zp3 qp4 zp4 qp5 zp5 qp6 zp6 qp7 zp7 qp8 zp8
  have Hm' := Lib.hid (bblock hb Hm.out); clear Hm; have Hm := Hm'; clear Hm'
  have Hp' := Lib.hid (bblock hb Hp.out); clear Hp; have Hp := Hp'; clear Hp'
  have HB' := below_call HB hb; clear HB hb; have HB := HB'; clear HB'; have hz4 := HB.size
  have lt_m_4 := blk_lt Hm.out
  have lt_p_4 := blk_lt Hp.out
  have Hx := Lib.hid (alloc_new' w4 (.cells #[.int .i64 3, .int .i64 4, .int .i64 0, .string Q] 23) (w4.heap.size) (by simp))
  have Hm' := Lib.hid (block_alloc Hm.out (.cells #[.int .i64 3, .int .i64 4, .int .i64 0, .string Q] 23)); clear Hm; have Hm := Hm'; clear Hm'
  have Hp' := Lib.hid (block_alloc Hp.out (.cells #[.int .i64 3, .int .i64 4, .int .i64 0, .string Q] 23)); clear Hp; have Hp := Hp'; clear Hp'
  have HB' := below_alloc (o := .cells #[.int .i64 3, .int .i64 4, .int .i64 0, .string Q] 23) HB; clear HB; have HB := HB'; clear HB'
  have Sx := cells4 Hx.out
  obtain ⟨⟨qx0, qx1, qx2, qx3⟩, zx0, zx1, zx2, zx3⟩ := Sx
  have lt_x := blk_lt Hx.out
  go_wp2_with fail
  refine (H6.out _).mono ?_
  rintro e w5 ⟨rfl, hb⟩
  clear qx0 zx0 qx1 zx1 qx2 zx2 qx3 zx3
  have Hm' := Lib.hid (bblock hb Hm.out); clear Hm; have Hm := Hm'; clear Hm'
  have Hp' := Lib.hid (bblock hb Hp.out); clear Hp; have Hp := Hp'; clear Hp'
  have Hx' := Lib.hid (bblock hb Hx.out); clear Hx; have Hx := Hx'; clear Hx'
  have HB' := below_call HB hb; clear HB hb; have HB := HB'; clear HB'; have hz5 := HB.size
  have lt_m_5 := blk_lt Hm.out
  have lt_p_5 := blk_lt Hp.out
  have lt_x_5 := blk_lt Hx.out
  have Hq := Lib.hid (alloc_new' w5 (.cells #[.int .i64 1, .int .i64 2, .int .i64 17, .int .i64 9, .int .i64 0, .bool false, .bool false, .int .i64 0, .string ⟨#[48, 49, 50, 51, 52, 53, 54, 55]⟩] 31) (w5.heap.size) (by simp))
  have Hm' := Lib.hid (block_alloc Hm.out (.cells #[.int .i64 1, .int .i64 2, .int .i64 17, .int .i64 9, .int .i64 0, .bool false, .bool false, .int .i64 0, .string ⟨#[48, 49, 50, 51, 52, 53, 54, 55]⟩] 31)); clear Hm; have Hm := Hm'; clear Hm'
  have Hp' := Lib.hid (block_alloc Hp.out (.cells #[.int .i64 1, .int .i64 2, .int .i64 17, .int .i64 9, .int .i64 0, .bool false, .bool false, .int .i64 0, .string ⟨#[48, 49, 50, 51, 52, 53, 54, 55]⟩] 31)); clear Hp; have Hp := Hp'; clear Hp'
  have Hx' := Lib.hid (block_alloc Hx.out (.cells #[.int .i64 1, .int .i64 2, .int .i64 17, .int .i64 9, .int .i64 0, .bool false, .bool false, .int .i64 0, .string ⟨#[48, 49, 50, 51, 52, 53, 54, 55]⟩] 31)); clear Hx; have Hx := Hx'; clear Hx'
  have HB' := below_alloc (o := .cells #[.int .i64 1, .int .i64 2, .int .i64 17, .int .i64 9, .int .i64 0, .bool false, .bool false, .int .i64 0, .string ⟨#[48, 49, 50, 51, 52, 53, 54, 55]⟩] 31) HB; clear HB; have HB := HB'; clear HB'
  have Sx := cells4 Hx.out
  obtain ⟨⟨qx0, qx1, qx2, qx3⟩, zx0, zx1, zx2, zx3⟩ := Sx
  have lt_x := blk_lt Hx.out
  go_wp2_with fail
  refine (H7.out _).mono ?_
  rintro e w6 ⟨rfl, hb⟩
  clear qx0 zx0 qx1 zx1 qx2 zx2 qx3 zx3
  have Hm' := Lib.hid (bblock hb Hm.out); clear Hm; have Hm := Hm'; clear Hm'
  have Hp' := Lib.hid (bblock hb Hp.out); clear Hp; have Hp := Hp'; clear Hp'
  have Hx' := Lib.hid (bblock hb Hx.out); clear Hx; have Hx := Hx'; clear Hx'
  have Hq' := Lib.hid (bblock hb Hq.out); clear Hq; have Hq := Hq'; clear Hq'
  have HB' := below_call HB hb; clear HB hb; have HB := HB'; clear HB'; have hz6 := HB.size
  have lt_m_6 := blk_lt Hm.out
  have lt_p_6 := blk_lt Hp.out
  have lt_x_6 := blk_lt Hx.out
  have lt_q_6 := blk_lt Hq.out
  go_wp2_with fail
  refine (H8.out _).mono ?_
  rintro e w7 ⟨rfl, hb⟩
  have Hm' := Lib.hid (bblock hb Hm.out); clear Hm; have Hm := Hm'; clear Hm'
  have Hp' := Lib.hid (bblock hb Hp.out); clear Hp; have Hp := Hp'; clear Hp'
  have Hx' := Lib.hid (bblock hb Hx.out); clear Hx; have Hx := Hx'; clear Hx'
  have Hq' := Lib.hid (bblock hb Hq.out); clear Hq; have Hq := Hq'; clear Hq'
  have HB' := below_call HB hb; clear HB hb; have HB := HB'; clear HB'; have hz7 := HB.size
  have lt_m_7 := blk_lt Hm.out
  have lt_p_7 := blk_lt Hp.out
  have lt_x_7 := blk_lt Hx.out
  have lt_q_7 := blk_lt Hq.out
  have Hm' := Lib.hid (block_alloc Hm.out (.cells #[.int .i64 0, .int .i64 0, .int .i64 0, .string ⟨#[]⟩] 23)); clear Hm; have Hm := Hm'; clear Hm'
  have Hp' := Lib.hid (block_alloc Hp.out (.cells #[.int .i64 0, .int .i64 0, .int .i64 0, .string ⟨#[]⟩] 23)); clear Hp; have Hp := Hp'; clear Hp'
  have Hx' := Lib.hid (block_alloc Hx.out (.cells #[.int .i64 0, .int .i64 0, .int .i64 0, .string ⟨#[]⟩] 23)); clear Hx; have Hx := Hx'; clear Hx'
  have Hq' := Lib.hid (block_alloc Hq.out (.cells #[.int .i64 0, .int .i64 0, .int .i64 0, .string ⟨#[]⟩] 23)); clear Hq; have Hq := Hq'; clear Hq'
  have HB' := below_alloc (o := .cells #[.int .i64 0, .int .i64 0, .int .i64 0, .string ⟨#[]⟩] 23) HB; clear HB; have HB := HB'; clear HB'
  go_upto_region 9 with fail
  generalize w7.alloc (.cells #[.int .i64 0, .int .i64 0, .int .i64 0, .string ⟨#[]⟩] 23) = W9 at *
  have hQz : (Q.size : Int) = 28 := by omega
  clear H1 H2 H3 H5 H6 H7 H8 HG hQ28 hz1 hz2 hz3 hz4 hz5 hz6 hz7
  have hNB := HB
  go_wp2_with (go_at_call 28; (with_reducible refine (new_any _).mono ?_); rintro e w10 ⟨rfl, hI10, hb10, hs10⟩; have HI10 := Lib.hid hI10; have HL1 := Lib.hid (lower_any none _ [] 0 5 500 w10 hI10 kept_nil); rw [low1b, low1l] at HL1; clear hI10)
  refine HL1.out.mono ?_
  rintro e w11 ⟨rfl, row1, hI11, hr1, hc1⟩
  have hbn := hb10.trans (hc1.toBelow (b0 := W9.heap.size) (Nat.le_refl _) (fun g h => by cases h) (by omega))
  have hrow1 : ∀ g, row1 = some g → W9.heap.size ≤ g := fun g h => by rcases hr1 with q | ⟨g2, q, hq⟩ <;> (rw [q] at h; cases h); omega
  have hs11 := hc1.size
  have HL2 := Lib.hid (lower_any row1 _ [⟨5, 500, 0⟩] 1 5 500 w11 hI11 kept1)
  rw [low2b, low2l] at HL2
  clear HL1 HI10 hr1 hc1 hb10 hI11
  go_upto_region 11 with fail
  go_wp2_with (first | (go_at_call 20; have _t := HB6; clear _t; (with_reducible refine (HV0.out _).mono ?_); rintro e v7 ⟨rfl, hv7⟩; have HB7 := Lib.hid (below_call HB6.out hv7); clear hv7; have em := bblock (below_call hb0 HB7.out) Hm.out; have ex := bblock (below_call hb0 HB7.out) Hx.out; have eq_ := bblock (below_call hb0 HB7.out) Hq.out; obtain ⟨⟨m0v7, m1v7, m2v7, m3v7⟩, -⟩ := cells4 em; have x3v7 := (cell_of_block (k := 3) ex rfl).1; have q0v7 := (cell_of_block (k := 0) eq_ rfl).1; have q8v7 := (cell_of_block (k := 8) eq_ rfl).1; clear em ex eq_) | (go_at_call 20; have _t := HB5; clear _t; (with_reducible refine (HV1.out _).mono ?_); rintro e v6 ⟨rfl, hv6⟩; have HB6 := Lib.hid (below_call HB5.out hv6); clear hv6; have em := bblock (below_call hb0 HB6.out) Hm.out; have ex := bblock (below_call hb0 HB6.out) Hx.out; have eq_ := bblock (below_call hb0 HB6.out) Hq.out; obtain ⟨⟨m0v6, m1v6, m2v6, m3v6⟩, -⟩ := cells4 em; have x3v6 := (cell_of_block (k := 3) ex rfl).1; have q0v6 := (cell_of_block (k := 0) eq_ rfl).1; have q8v6 := (cell_of_block (k := 8) eq_ rfl).1; clear em ex eq_) | (go_at_call 32; have _t := HB4; clear _t; (with_reducible refine (HLn.out _ HB4.out).mono ?_); rintro e v5 ⟨rfl, hv5⟩; have HB5 := Lib.hid (below_call HB4.out hv5); clear hv5; have em := bblock (below_call hb0 HB5.out) Hm.out; have ex := bblock (below_call hb0 HB5.out) Hx.out; have eq_ := bblock (below_call hb0 HB5.out) Hq.out; obtain ⟨⟨m0v5, m1v5, m2v5, m3v5⟩, -⟩ := cells4 em; have x3v5 := (cell_of_block (k := 3) ex rfl).1; have q0v5 := (cell_of_block (k := 0) eq_ rfl).1; have q8v5 := (cell_of_block (k := 8) eq_ rfl).1; clear em ex eq_) | (go_at_call 33; have _t := HB3; clear _t; (with_reducible refine (HS4.out _ HB3.out).mono ?_); rintro e v4 ⟨rfl, hv4⟩; have HB4 := Lib.hid (below_call HB3.out hv4); clear hv4; have em := bblock (below_call hb0 HB4.out) Hm.out; have ex := bblock (below_call hb0 HB4.out) Hx.out; have eq_ := bblock (below_call hb0 HB4.out) Hq.out; obtain ⟨⟨m0v4, m1v4, m2v4, m3v4⟩, -⟩ := cells4 em; have x3v4 := (cell_of_block (k := 3) ex rfl).1; have q0v4 := (cell_of_block (k := 0) eq_ rfl).1; have q8v4 := (cell_of_block (k := 8) eq_ rfl).1; clear em ex eq_) | (go_at_call 33; have _t := HB2; clear _t; (with_reducible refine (HS3.out _ HB2.out).mono ?_); rintro e v3 ⟨rfl, hv3⟩; have HB3 := Lib.hid (below_call HB2.out hv3); clear hv3; have em := bblock (below_call hb0 HB3.out) Hm.out; have ex := bblock (below_call hb0 HB3.out) Hx.out; have eq_ := bblock (below_call hb0 HB3.out) Hq.out; obtain ⟨⟨m0v3, m1v3, m2v3, m3v3⟩, -⟩ := cells4 em; have x3v3 := (cell_of_block (k := 3) ex rfl).1; have q0v3 := (cell_of_block (k := 0) eq_ rfl).1; have q8v3 := (cell_of_block (k := 8) eq_ rfl).1; clear em ex eq_) | (go_at_call 33; have _t := HB1; clear _t; (with_reducible refine (HS2.out _ HB1.out).mono ?_); rintro e v2 ⟨rfl, hv2⟩; have HB2 := Lib.hid (below_call HB1.out hv2); clear hv2; have em := bblock (below_call hb0 HB2.out) Hm.out; have ex := bblock (below_call hb0 HB2.out) Hx.out; have eq_ := bblock (below_call hb0 HB2.out) Hq.out; obtain ⟨⟨m0v2, m1v2, m2v2, m3v2⟩, -⟩ := cells4 em; have x3v2 := (cell_of_block (k := 3) ex rfl).1; have q0v2 := (cell_of_block (k := 0) eq_ rfl).1; have q8v2 := (cell_of_block (k := 8) eq_ rfl).1; clear em ex eq_) | (go_at_call 33; have _t := HB0; clear _t; (with_reducible refine (HS1.out _ HB0.out).mono ?_); rintro e v1 ⟨rfl, hv1⟩; have HB1 := Lib.hid (below_call HB0.out hv1); clear hv1; have em := bblock (below_call hb0 HB1.out) Hm.out; have ex := bblock (below_call hb0 HB1.out) Hx.out; have eq_ := bblock (below_call hb0 HB1.out) Hq.out; obtain ⟨⟨m0v1, m1v1, m2v1, m3v1⟩, -⟩ := cells4 em; have x3v1 := (cell_of_block (k := 3) ex rfl).1; have q0v1 := (cell_of_block (k := 0) eq_ rfl).1; have q8v1 := (cell_of_block (k := 8) eq_ rfl).1; clear em ex eq_) | (go_at_call 30; (with_reducible refine HL2.out.mono ?_); rintro e v0 ⟨rfl, row2, hI12, hr2, hc2⟩; have HI := Lib.hid hI12; have hb0 := hbn.trans (hc2.toBelow (b0 := W9.heap.size) (by omega) hrow1 hbn.size); clear hI12 hr2 hc2; have HB0 := Lib.hid (Below.refl v0.heap.size v0); have HS1 := Lib.hid fun (W : World) (hb : Below v0.heap.size v0 W) => size_any row2 W9.heap.size [⟨5, 500, 0⟩] 599 5 1000 W (HI.out.below hb) kept1; rw [sz1] at HS1; have HS2 := Lib.hid fun (W : World) (hb : Below v0.heap.size v0 W) => size_any row2 W9.heap.size [⟨5, 500, 0⟩] 600 5 1000 W (HI.out.below hb) kept1; rw [sz2] at HS2; have HS3 := Lib.hid fun (W : World) (hb : Below v0.heap.size v0 W) => size_any row2 W9.heap.size [⟨5, 500, 0⟩] 9 6 1000 W (HI.out.below hb) kept1; rw [sz3] at HS3; have HS4 := Lib.hid fun (W : World) (hb : Below v0.heap.size v0 W) => size_any row2 W9.heap.size [⟨5, 500, 0⟩] 9 5 400 W (HI.out.below hb) kept1; rw [sz4] at HS4; have HLn := Lib.hid fun (W : World) (hb : Below v0.heap.size v0 W) => plen_any row2 W9.heap.size [⟨5, 500, 0⟩] W (HI.out.below hb); have HV1 := Lib.hid s_valid1; have HV0 := Lib.hid s_valid0; have em := bblock (hb0) Hm.out; have ex := bblock (hb0) Hx.out; have eq_ := bblock (hb0) Hq.out; obtain ⟨⟨m0v0, m1v0, m2v0, m3v0⟩, -⟩ := cells4 em; have x3v0 := (cell_of_block (k := 3) ex rfl).1; have q0v0 := (cell_of_block (k := 0) eq_ rfl).1; have q8v0 := (cell_of_block (k := 8) eq_ rfl).1; clear em ex eq_))
  go_ret
  exact ⟨rfl, below_call hNB (below_call hb0 HB7.out)⟩
end Go.Proofs.YtmcfllogcmnnoaaDoor.Ic
