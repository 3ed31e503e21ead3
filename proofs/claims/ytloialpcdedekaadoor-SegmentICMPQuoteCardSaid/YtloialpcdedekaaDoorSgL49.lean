/-
  The walk of the law SegmentICMPQuote of chapter 11.
-/
import Derived.Test.YtloialpcdedekaaDoorSgArg
import Derived.Test.YtloialpcdedekaaDoorSgEx
import Derived.Test.YtloialpcdedekaaDoorIcM
import Derived.Test.YtloialpcdedekaaDoorIc8
namespace Go.Proofs.YtloialpcdedekaaDoor.Sg
open Go.RowKit Go.Proofs.YtloialpcdedekaaDoor.Wire
open Go.Proofs.YtloialpcdedekaaDoor.Ic (GlE neOk newError_any encode_ok enc_dcK decode_any menc menc_len quoted_any quote_val quote_ok quoteP quoteP_size MOk Suits mostOf carB)
open Go.Proofs.YtloialpcdedekaaDoor.Ip (Pk VLen)
set_option maxRecDepth 100000

/-- the datagram that carries the segment's bytes -/
def qP (a b : Int) (E : List UInt8) : Pk := ⟨a, b, 6, 3, 7, true, false, 0, ⟨E.toArray⟩⟩
theorem qP_ok {a b : Int} {E : List UInt8} (h1 : 1 ≤ a ∧ a ≤ 4294967294) (h2 : 1 ≤ b ∧ b ≤ 4294967294) (hE : E.length ≤ 1100) : (qP a b E).ok := by
  have e : (qP a b E).s.size = E.length := by show (⟨E.toArray⟩ : ByteArray).size = _; rw [sz]
  unfold Pk.ok VLen
  rw [e]
  show (1 ≤ a ∧ a ≤ 4294967294 ∧ 1 ≤ b ∧ b ≤ 4294967295) ∧ (0 ≤ (6 : Int) ∧ (6 : Int) ≤ 255 ∧ 1 ≤ (3 : Int) ∧ (3 : Int) ≤ 255 ∧ 0 ≤ (7 : Int) ∧ (7 : Int) ≤ 65535) ∧ (0 ≤ (0 : Int) ∧ (0 : Int) ≤ 4000 ∧ (0 : Int) % 8 = 0 ∧ 0 + (E.length : Int) ≤ 4000) ∧ (false = true → _) ∧ ((0 : Int) < 0 → _) ∧ (true = true → false = false ∧ (0 : Int) = 0)
  exact ⟨by omega, by omega, by omega, (fun h => by cases h), (fun h => by omega), fun _ => ⟨rfl, rfl⟩⟩
theorem qP_ne {a b c : Int} {E : List UInt8} (h1 : 1 ≤ a ∧ a ≤ 4294967294) (h2 : 1 ≤ b ∧ b ≤ 4294967294) (hE : E.length ≤ 1100) (hc : 1 ≤ c ∧ c ≤ 4) : neOk 3 c 0 (qP a b E) := by
  refine ⟨qP_ok h1 h2 hE, rfl, ?_, ?_, by decide, by decide, ?_, ?_⟩
  · show b ≠ 4294967295; omega
  · unfold carB qP; simp
  · unfold Suits; simp; omega
  · rw [quoteP_size]; unfold mostOf; simp; omega
theorem at8 (E : List UInt8) (a k : Nat) (h : a + k ≤ 8) : bytesAt (⟨(E.take 8).toArray⟩ : ByteArray) a k = bytesAt (⟨E.toArray⟩ : ByteArray) a k := by
  unfold bytesAt
  show ((E.take 8).drop a).take k = (E.drop a).take k
  rw [List.drop_take, List.take_take, Nat.min_eq_left (by omega)]
set_option maxHeartbeats 4000000 in
theorem law49_any (fp tp sq ack : Int) (syn fin rst ha : Bool) (win mss : Int) (sacks : Bool) (A : Option Addr) (n c : Nat) (bl : List (Int × Int)) (s : ByteArray) (kind from_ to_ cd : Int) (a0 a1 : Addr) (w : World) (hg : GlE w a0 a1) (hfp : In64 fp) (htp : In64 tp) (hsq : In64 sq) (hack : In64 ack) (hwin : In64 win) (hmss : In64 mss) (hkind : In64 kind) (hf : In64 from_) (ht : In64 to_) (hcd : 0 ≤ cd ∧ cd ≤ 255) (hA : ArgB w A n c bl) :
    Calls Tryd.prog 3 #[.agg #[.int .i64 fp, .int .i64 tp, .int .i64 sq, .int .i64 ack, .bool syn, .bool fin, .bool rst, .bool ha, .int .i64 win, .int .i64 mss, .bool sacks, .slice A n c, .string s], .int .i64 kind, .int .i64 from_, .int .i64 to_, .int .u8 cd] w fun e w' => e = .returned (.bool true) ∧ Below w.heap.size w w' := by
  have hg0 := Lib.hid hg
  have HC := Lib.hid fun W (hA : ArgB W A n c bl) => cut_any fp tp sq ack syn fin rst ha win mss sacks A n c bl s W hfp htp hsq hack hwin hmss hA
  have HS := Lib.hid fun x A c W (hx : Seg.raw x) hb => segOf_raw x A c kind W hx hkind hb
  have hp := pick_lt from_ 4294967294 (by omega)
  have hq := pick_lt to_ 4294967294 (by omega)
  have HP := Lib.hid fun W => pick_any from_ 4294967294 W hf.1 hf.2 (by omega) (by omega)
  have HQ := Lib.hid fun W => pick_any to_ 4294967294 W ht.1 ht.2 (by omega) (by omega)
  generalize pick from_ 4294967294 = p0 at *
  generalize pick to_ 4294967294 = q0 at *
  obtain ⟨hp0, hp1⟩ := hp
  obtain ⟨hq0, hq1⟩ := hq
  have HA := Lib.hid hA
  clear hfp htp hsq hack hwin hmss hkind hf ht hg hA
  go_enter Tryd.func3, Tryd.ntmps3
  have HB := Below.refl w.heap.size w
  have Hx := Lib.hid (alloc_new' w (.cells #[.int .i64 fp, .int .i64 tp, .int .i64 sq, .int .i64 ack, .bool syn, .bool fin, .bool rst, .bool ha, .int .i64 win, .int .i64 mss, .bool sacks, .slice A n c, .string s] 24) (w.heap.size) (by simp))
  have HA' := Lib.hid (HA.out.alloc (.cells #[.int .i64 fp, .int .i64 tp, .int .i64 sq, .int .i64 ack, .bool syn, .bool fin, .bool rst, .bool ha, .int .i64 win, .int .i64 mss, .bool sacks, .slice A n c, .string s] 24)); clear HA; have HA := HA'; clear HA'
  have HB' := below_alloc (o := .cells #[.int .i64 fp, .int .i64 tp, .int .i64 sq, .int .i64 ack, .bool syn, .bool fin, .bool rst, .bool ha, .int .i64 win, .int .i64 mss, .bool sacks, .slice A n c, .string s] 24) HB; clear HB; have HB := HB'; clear HB'
  go_wp2_with fail
  refine (examples_any _).mono ?_
  rintro e w1 ⟨rfl, hb⟩
  have Hx' := Lib.hid (bblock hb Hx.out); clear Hx; have Hx := Hx'; clear Hx'
  have HA' := Lib.hid (HA.out.below hb); clear HA; have HA := HA'; clear HA'
  have HB' := below_call HB hb; clear HB hb; have HB := HB'; clear HB'; have hz1 := HB.size
  have lt_x_1 := blk_lt Hx.out
  go_upto_region 6 with (first | (go_at_call 5; (with_reducible refine (HP.out _).mono ?_); rintro e w' ⟨rfl, rfl⟩) | (go_at_call 5; (with_reducible refine (HQ.out _).mono ?_); rintro e w' ⟨rfl, rfl⟩))
  have qx0 := (cell_of_block (k := 0) Hx.out rfl).1; have zx0 := (cell_of_block (k := 0) Hx.out rfl).2; have qx1 := (cell_of_block (k := 1) Hx.out rfl).1; have zx1 := (cell_of_block (k := 1) Hx.out rfl).2; have qx2 := (cell_of_block (k := 2) Hx.out rfl).1; have zx2 := (cell_of_block (k := 2) Hx.out rfl).2; have qx3 := (cell_of_block (k := 3) Hx.out rfl).1; have zx3 := (cell_of_block (k := 3) Hx.out rfl).2; have qx4 := (cell_of_block (k := 4) Hx.out rfl).1; have zx4 := (cell_of_block (k := 4) Hx.out rfl).2; have qx5 := (cell_of_block (k := 5) Hx.out rfl).1; have zx5 := (cell_of_block (k := 5) Hx.out rfl).2; have qx6 := (cell_of_block (k := 6) Hx.out rfl).1; have zx6 := (cell_of_block (k := 6) Hx.out rfl).2; have qx7 := (cell_of_block (k := 7) Hx.out rfl).1; have zx7 := (cell_of_block (k := 7) Hx.out rfl).2; have qx8 := (cell_of_block (k := 8) Hx.out rfl).1; have zx8 := (cell_of_block (k := 8) Hx.out rfl).2; have qx9 := (cell_of_block (k := 9) Hx.out rfl).1; have zx9 := (cell_of_block (k := 9) Hx.out rfl).2; have qx10 := (cell_of_block (k := 10) Hx.out rfl).1; have zx10 := (cell_of_block (k := 10) Hx.out rfl).2; have qx11 := (cell_of_block (k := 11) Hx.out rfl).1; have zx11 := (cell_of_block (k := 11) Hx.out rfl).2; have qx12 := (cell_of_block (k := 12) Hx.out rfl).1; have zx12 := (cell_of_block (k := 12) Hx.out rfl).2; have lt_x := blk_lt Hx.out
  go_wp2_with fail
  clear qx0 zx0 qx1 zx1 qx2 zx2 qx3 zx3 qx4 zx4 qx5 zx5 qx6 zx6 qx7 zx7 qx8 zx8 qx9 zx9 qx10 zx10 qx11 zx11 qx12 zx12 lt_x
  refine (HC.out _ HA.out).mono ?_
  rintro e w2 ⟨sx, A2, c2, hx, rfl, hbk, hb⟩
  have Hx' := Lib.hid (bblock hb Hx.out); clear Hx; have Hx := Hx'; clear Hx'
  have HA' := Lib.hid (HA.out.below hb); clear HA; have HA := HA'; clear HA'
  have HB' := below_call HB hb; clear HB hb; have HB := HB'; clear HB'; have hz2 := HB.size
  have lt_x_2 := blk_lt Hx.out
  have HX := Lib.hid hx; have HK := Lib.hid hbk; clear hx hbk
  clear Hx HA
  go_wp2_with fail
  refine (HS.out sx A2 c2 _ HX.out HK.out).mono ?_
  rintro e w3 ⟨y, A3, c3, hy, rfl, hbk, hb⟩
  have HB' := below_call HB hb; clear HB hb; have HB := HB'; clear HB'; have hz3 := HB.size
  clear HX HK
  obtain ⟨p, hp⟩ : ∃ p, 1 + p0 = p := ⟨_, rfl⟩
  obtain ⟨q, hq⟩ : ∃ q, 1 + q0 = q := ⟨_, rfl⟩
  rw [hp, hq]
  have hpb : 1 ≤ p ∧ p ≤ 4294967294 := by omega
  have hqb : 1 ≤ q ∧ q ≤ 4294967294 := by omega
  clear hp hq
  have hE0 : (y.enc p q).length ≤ 1100 := enc_le p q y hy
  have hde := (dec_enc p q y hy).1
  have HEn := Lib.hid fun W hb => enc_ok p q y A3 c3 W ⟨by omega, by omega⟩ ⟨by omega, by omega⟩ hy hb
  have hE8 : 20 ≤ (y.enc p q).length := by have := (enc_decOk p q y hy).1; rwa [sz] at this
  have HK3 := Lib.hid hbk; clear hbk hy
  obtain ⟨E, hE⟩ : ∃ E, y.enc p q = E := ⟨_, rfl⟩
  rw [hE] at HEn hde hE0 hE8
  have g1 : num (bytesAt (⟨(E.take 8).toArray⟩ : ByteArray) 0 2) = y.fp := by rw [at8 E 0 2 (by omega)]; exact congrArg Seg.fp hde
  have g2 : num (bytesAt (⟨(E.take 8).toArray⟩ : ByteArray) 2 2) = y.tp := by rw [at8 E 2 2 (by omega)]; exact congrArg Seg.tp hde
  have g3 : num (bytesAt (⟨(E.take 8).toArray⟩ : ByteArray) 4 4) = y.sq := by rw [at8 E 4 4 (by omega)]; exact congrArg Seg.sq hde
  obtain ⟨S8, hS8⟩ : ∃ S8 : ByteArray, S8 = ⟨(E.take 8).toArray⟩ := ⟨_, rfl⟩
  have hz8 : S8.size = 8 := by rw [hS8, sz, List.length_take]; omega
  rw [← hS8] at g1 g2 g3
  have HG0 : Hid (∀ W, Calls Tryd.prog 13 #[.string S8, .int .i64 0, .int .i64 2] W fun e w' => e = .returned (.tuple #[.int .i64 y.fp, .int .i64 0]) ∧ Below W.heap.size W w') := Lib.hid fun W => by
    have := get_okI S8 0 2 W (by omega) (by omega) (by omega) (by omega) (by omega)
    rw [show num (bytesAt S8 ((0 : Int).toNat) ((2 : Int).toNat)) = y.fp from g1] at this
    exact this
  have HG1 : Hid (∀ W, Calls Tryd.prog 13 #[.string S8, .int .i64 2, .int .i64 2] W fun e w' => e = .returned (.tuple #[.int .i64 y.tp, .int .i64 0]) ∧ Below W.heap.size W w') := Lib.hid fun W => by
    have := get_okI S8 2 2 W (by omega) (by omega) (by omega) (by omega) (by omega)
    rw [show num (bytesAt S8 ((2 : Int).toNat) ((2 : Int).toNat)) = y.tp from g2] at this
    exact this
  have HG2 : Hid (∀ W, Calls Tryd.prog 13 #[.string S8, .int .i64 4, .int .i64 4] W fun e w' => e = .returned (.tuple #[.int .i64 y.sq, .int .i64 0]) ∧ Below W.heap.size W w') := Lib.hid fun W => by
    have := get_okI S8 4 4 W (by omega) (by omega) (by omega) (by omega) (by omega)
    rw [show num (bytesAt S8 ((4 : Int).toNat) ((4 : Int).toNat)) = y.sq from g3] at this
    exact this
  have hcc : 1 ≤ 1 + cd % 4 ∧ 1 + cd % 4 ≤ 4 := by omega
  have hne := qP_ne (E := E) hpb hqb hE0 hcc
  obtain ⟨Q, hQ⟩ : ∃ Q, quoteP (qP p q E) = Q := ⟨_, rfl⟩
  have HNE : Hid (∀ W, Calls Tryd.prog 9 #[.int .i64 3, .int .i64 (1 + cd % 4), .int .i64 0, .agg #[.int .i64 p, .int .i64 q, .int .i64 6, .int .i64 3, .int .i64 7, .bool true, .bool false, .int .i64 0, .string ⟨E.toArray⟩]] W fun e w' => e = .returned (.tuple #[.agg #[.int .i64 3, .int .i64 (1 + cd % 4), .int .i64 0, .string Q], .bool true]) ∧ Below W.heap.size W w') := Lib.hid fun W => by
    refine (newError_any 3 (1 + cd % 4) 0 (qP p q E) W (by show (⟨E.toArray⟩ : ByteArray).size ≤ _; rw [sz]; omega)).mono ?_
    rintro e w' ⟨⟨-, rfl⟩ | ⟨h, -⟩, hb⟩
    · exact ⟨by rw [← hQ]; rfl, hb⟩
    · exact absurd hne h
  have hok : MOk 3 (1 + cd % 4) 0 Q.size := by rw [← hQ]; exact hne.2.2.2.2.2
  have hQz : Q.size ≤ 28 := by rw [← hQ, quoteP_size]; omega
  have hD := (enc_dcK 3 (1 + cd % 4) 0 Q hok)
  have HDE : Hid (∀ W, GlE W a0 a1 → Calls Tryd.prog 11 #[.string ⟨(menc 3 (1 + cd % 4) 0 Q).toArray⟩] W fun e w' => e = .returned (.tuple #[.agg #[.int .i64 3, .int .i64 (1 + cd % 4), .int .i64 0, .string Q], .int .i64 0]) ∧ Below W.heap.size W w') := Lib.hid fun W hw => by
    refine (decode_any _ (by rw [sz, menc_len]; omega) a0 a1 W hw).mono ?_
    rintro e w' ⟨hb, ⟨-, rfl⟩ | ⟨hn, -⟩⟩
    · exact ⟨by rw [hD.2], hb⟩
    · exact absurd hD.1 hn
  have HEM := Lib.hid fun W => encode_ok 3 (1 + cd % 4) 0 Q W hok
  have HQU : Hid (∀ W, Calls Tryd.prog 12 #[.agg #[.int .i64 3, .int .i64 (1 + cd % 4), .int .i64 0, .string Q]] W fun e w' => e = .returned (.tuple #[.agg #[.int .i64 p, .int .i64 q, .int .i64 6, .int .i64 3, .int .i64 7, .bool true, .bool false, .int .i64 0, .string S8], .bool true]) ∧ Below W.heap.size W w') := Lib.hid fun W => by
    have h := quoted_any 3 (1 + cd % 4) 0 (quoteP (qP p q E)) W (by rw [hQ]; omega)
    rw [hQ] at h
    refine h.mono ?_
    rintro e w' ⟨⟨-, rfl⟩ | ⟨h, -⟩, hb⟩
    · exact ⟨by rw [← hQ, quote_val _ hne.1, hS8]; rfl, hb⟩
    · exact absurd (by rw [← hQ]; exact quote_ok hne) h
  clear hde hE g1 g2 g3 hS8 hne hQ hok hD hE8
  generalize (⟨(menc 3 (1 + cd % 4) 0 Q).toArray⟩ : ByteArray) = TT at *
  unfold Seg.val at HEn ⊢
  have Hs := Lib.hid (alloc_new' w3 (.cells #[.int .i64 y.fp, .int .i64 y.tp, .int .i64 y.sq, .int .i64 y.ack, .bool y.syn, .bool y.fin, .bool y.rst, .bool y.ha, .int .i64 y.win, .int .i64 y.mss, .bool y.sacks, .slice A3 y.bl.length c3, .string y.s] 24) (w3.heap.size) (by simp))
  have HK3' := Lib.hid (HK3.out.alloc (.cells #[.int .i64 y.fp, .int .i64 y.tp, .int .i64 y.sq, .int .i64 y.ack, .bool y.syn, .bool y.fin, .bool y.rst, .bool y.ha, .int .i64 y.win, .int .i64 y.mss, .bool y.sacks, .slice A3 y.bl.length c3, .string y.s] 24)); clear HK3; have HK3 := HK3'; clear HK3'
  have HB' := below_alloc (o := .cells #[.int .i64 y.fp, .int .i64 y.tp, .int .i64 y.sq, .int .i64 y.ack, .bool y.syn, .bool y.fin, .bool y.rst, .bool y.ha, .int .i64 y.win, .int .i64 y.mss, .bool y.sacks, .slice A3 y.bl.length c3, .string y.s] 24) HB; clear HB; have HB := HB'; clear HB'
  have qs0 := (cell_of_block (k := 0) Hs.out rfl).1; have zs0 := (cell_of_block (k := 0) Hs.out rfl).2; have qs1 := (cell_of_block (k := 1) Hs.out rfl).1; have zs1 := (cell_of_block (k := 1) Hs.out rfl).2; have qs2 := (cell_of_block (k := 2) Hs.out rfl).1; have zs2 := (cell_of_block (k := 2) Hs.out rfl).2; have qs3 := (cell_of_block (k := 3) Hs.out rfl).1; have zs3 := (cell_of_block (k := 3) Hs.out rfl).2; have qs4 := (cell_of_block (k := 4) Hs.out rfl).1; have zs4 := (cell_of_block (k := 4) Hs.out rfl).2; have qs5 := (cell_of_block (k := 5) Hs.out rfl).1; have zs5 := (cell_of_block (k := 5) Hs.out rfl).2; have qs6 := (cell_of_block (k := 6) Hs.out rfl).1; have zs6 := (cell_of_block (k := 6) Hs.out rfl).2; have qs7 := (cell_of_block (k := 7) Hs.out rfl).1; have zs7 := (cell_of_block (k := 7) Hs.out rfl).2; have qs8 := (cell_of_block (k := 8) Hs.out rfl).1; have zs8 := (cell_of_block (k := 8) Hs.out rfl).2; have qs9 := (cell_of_block (k := 9) Hs.out rfl).1; have zs9 := (cell_of_block (k := 9) Hs.out rfl).2; have qs10 := (cell_of_block (k := 10) Hs.out rfl).1; have zs10 := (cell_of_block (k := 10) Hs.out rfl).2; have qs11 := (cell_of_block (k := 11) Hs.out rfl).1; have zs11 := (cell_of_block (k := 11) Hs.out rfl).2; have qs12 := (cell_of_block (k := 12) Hs.out rfl).1; have zs12 := (cell_of_block (k := 12) Hs.out rfl).2; have lt_s := blk_lt Hs.out
  go_wp2_with fail
  clear qs0 zs0 qs1 zs1 qs2 zs2 qs3 zs3 qs4 zs4 qs5 zs5 qs6 zs6 qs7 zs7 qs8 zs8 qs9 zs9 qs10 zs10 qs11 zs11 qs12 zs12 lt_s
  refine (HEn.out _ HK3.out).mono ?_
  rintro e w4 ⟨rfl, hb⟩
  have Hs' := Lib.hid (bblock hb Hs.out); clear Hs; have Hs := Hs'; clear Hs'
  have HK3' := Lib.hid (HK3.out.below hb); clear HK3; have HK3 := HK3'; clear HK3'
  have HB' := below_call HB hb; clear HB hb; have HB := HB'; clear HB'; have hz4 := HB.size
  have lt_s_4 := blk_lt Hs.out
  clear HK3 HEn
  go_wp2_with fail
  refine (HNE.out _).mono ?_
  rintro e w5 ⟨rfl, hb⟩
  have Hs' := Lib.hid (bblock hb Hs.out); clear Hs; have Hs := Hs'; clear Hs'
  have HB' := below_call HB hb; clear HB hb; have HB := HB'; clear HB'; have hz5 := HB.size
  have lt_s_5 := blk_lt Hs.out
  have Hm := Lib.hid (alloc_new' w5 (.cells #[.int .i64 3, .int .i64 (1 + cd % 4), .int .i64 0, .string Q] 33) (w5.heap.size) (by simp))
  have Hs' := Lib.hid (block_alloc Hs.out (.cells #[.int .i64 3, .int .i64 (1 + cd % 4), .int .i64 0, .string Q] 33)); clear Hs; have Hs := Hs'; clear Hs'
  have HB' := below_alloc (o := .cells #[.int .i64 3, .int .i64 (1 + cd % 4), .int .i64 0, .string Q] 33) HB; clear HB; have HB := HB'; clear HB'
  have Sm := cells4 Hm.out
  obtain ⟨⟨qm0, qm1, qm2, qm3⟩, zm0, zm1, zm2, zm3⟩ := Sm
  have lt_m := blk_lt Hm.out
  go_wp2_with fail
  refine (HEM.out _).mono ?_
  rintro e w6 ⟨rfl, hb⟩
  clear qm0 zm0 qm1 zm1 qm2 zm2 qm3 zm3
  have Hs' := Lib.hid (bblock hb Hs.out); clear Hs; have Hs := Hs'; clear Hs'
  have Hm' := Lib.hid (bblock hb Hm.out); clear Hm; have Hm := Hm'; clear Hm'
  have HB' := below_call HB hb; clear HB hb; have HB := HB'; clear HB'; have hz6 := HB.size
  have lt_s_6 := blk_lt Hs.out
  have lt_m_6 := blk_lt Hm.out
  go_wp2_with fail
  refine (HDE.out _ (hg0.out.below HB)).mono ?_
  rintro e w7 ⟨rfl, hb⟩
  have Hs' := Lib.hid (bblock hb Hs.out); clear Hs; have Hs := Hs'; clear Hs'
  have Hm' := Lib.hid (bblock hb Hm.out); clear Hm; have Hm := Hm'; clear Hm'
  have HB' := below_call HB hb; clear HB hb; have HB := HB'; clear HB'; have hz7 := HB.size
  have lt_s_7 := blk_lt Hs.out
  have lt_m_7 := blk_lt Hm.out
  have Hr := Lib.hid (alloc_new' w7 (.cells #[.int .i64 3, .int .i64 (1 + cd % 4), .int .i64 0, .string Q] 33) (w7.heap.size) (by simp))
  have Hs' := Lib.hid (block_alloc Hs.out (.cells #[.int .i64 3, .int .i64 (1 + cd % 4), .int .i64 0, .string Q] 33)); clear Hs; have Hs := Hs'; clear Hs'
  have Hm' := Lib.hid (block_alloc Hm.out (.cells #[.int .i64 3, .int .i64 (1 + cd % 4), .int .i64 0, .string Q] 33)); clear Hm; have Hm := Hm'; clear Hm'
  have HB' := below_alloc (o := .cells #[.int .i64 3, .int .i64 (1 + cd % 4), .int .i64 0, .string Q] 33) HB; clear HB; have HB := HB'; clear HB'
  have Sr := cells4 Hr.out
  obtain ⟨⟨qr0, qr1, qr2, qr3⟩, zr0, zr1, zr2, zr3⟩ := Sr
  have lt_r := blk_lt Hr.out
  go_wp2_with fail
  refine (HQU.out _).mono ?_
  rintro e w8 ⟨rfl, hb⟩
  clear qr0 zr0 qr1 zr1 qr2 zr2 qr3 zr3
  have Hs' := Lib.hid (bblock hb Hs.out); clear Hs; have Hs := Hs'; clear Hs'
  have Hm' := Lib.hid (bblock hb Hm.out); clear Hm; have Hm := Hm'; clear Hm'
  have Hr' := Lib.hid (bblock hb Hr.out); clear Hr; have Hr := Hr'; clear Hr'
  have HB' := below_call HB hb; clear HB hb; have HB := HB'; clear HB'; have hz8 := HB.size
  have lt_s_8 := blk_lt Hs.out
  have lt_m_8 := blk_lt Hm.out
  have lt_r_8 := blk_lt Hr.out
  have Hpp := Lib.hid (alloc_new' w8 (.cells #[.int .i64 p, .int .i64 q, .int .i64 6, .int .i64 3, .int .i64 7, .bool true, .bool false, .int .i64 0, .string S8] 37) (w8.heap.size) (by simp))
  have Hs' := Lib.hid (block_alloc Hs.out (.cells #[.int .i64 p, .int .i64 q, .int .i64 6, .int .i64 3, .int .i64 7, .bool true, .bool false, .int .i64 0, .string S8] 37)); clear Hs; have Hs := Hs'; clear Hs'
  have Hm' := Lib.hid (block_alloc Hm.out (.cells #[.int .i64 p, .int .i64 q, .int .i64 6, .int .i64 3, .int .i64 7, .bool true, .bool false, .int .i64 0, .string S8] 37)); clear Hm; have Hm := Hm'; clear Hm'
  have Hr' := Lib.hid (block_alloc Hr.out (.cells #[.int .i64 p, .int .i64 q, .int .i64 6, .int .i64 3, .int .i64 7, .bool true, .bool false, .int .i64 0, .string S8] 37)); clear Hr; have Hr := Hr'; clear Hr'
  have HB' := below_alloc (o := .cells #[.int .i64 p, .int .i64 q, .int .i64 6, .int .i64 3, .int .i64 7, .bool true, .bool false, .int .i64 0, .string S8] 37) HB; clear HB; have HB := HB'; clear HB'
  have h8 : ((S8.size : Int) != 8) = false := by simp; omega
  have Spp := cells9 Hpp.out
  obtain ⟨⟨qpp0, qpp1, qpp2, qpp3, qpp4, qpp5, qpp6, qpp7, qpp8⟩, zpp0, zpp1, zpp2, zpp3, zpp4, zpp5, zpp6, zpp7, zpp8⟩ := Spp
  have lt_pp := blk_lt Hpp.out
  go_wp2_with fail
  refine (HG0.out _).mono ?_
  rintro e w9 ⟨rfl, hb⟩
  clear qpp0 zpp0 qpp1 zpp1 qpp2 zpp2 qpp3 zpp3 qpp4 zpp4 qpp5 zpp5 qpp6 zpp6 qpp7 zpp7 qpp8 zpp8
  have Hs' := Lib.hid (bblock hb Hs.out); clear Hs; have Hs := Hs'; clear Hs'
  have Hm' := Lib.hid (bblock hb Hm.out); clear Hm; have Hm := Hm'; clear Hm'
  have Hr' := Lib.hid (bblock hb Hr.out); clear Hr; have Hr := Hr'; clear Hr'
  have Hpp' := Lib.hid (bblock hb Hpp.out); clear Hpp; have Hpp := Hpp'; clear Hpp'
  have HB' := below_call HB hb; clear HB hb; have HB := HB'; clear HB'; have hz9 := HB.size
  have lt_s_9 := blk_lt Hs.out
  have lt_m_9 := blk_lt Hm.out
  have lt_r_9 := blk_lt Hr.out
  have lt_pp_9 := blk_lt Hpp.out
  have Spp := cells9 Hpp.out
  obtain ⟨⟨qpp0, qpp1, qpp2, qpp3, qpp4, qpp5, qpp6, qpp7, qpp8⟩, zpp0, zpp1, zpp2, zpp3, zpp4, zpp5, zpp6, zpp7, zpp8⟩ := Spp
  have lt_pp := blk_lt Hpp.out
  go_wp2_with fail
  refine (HG1.out _).mono ?_
  rintro e w10 ⟨rfl, hb⟩
  clear qpp0 zpp0 qpp1 zpp1 qpp2 zpp2 qpp3 zpp3 qpp4 zpp4 qpp5 zpp5 qpp6 zpp6 qpp7 zpp7 qpp8 zpp8
  have Hs' := Lib.hid (bblock hb Hs.out); clear Hs; have Hs := Hs'; clear Hs'
  have Hm' := Lib.hid (bblock hb Hm.out); clear Hm; have Hm := Hm'; clear Hm'
  have Hr' := Lib.hid (bblock hb Hr.out); clear Hr; have Hr := Hr'; clear Hr'
  have Hpp' := Lib.hid (bblock hb Hpp.out); clear Hpp; have Hpp := Hpp'; clear Hpp'
  have HB' := below_call HB hb; clear HB hb; have HB := HB'; clear HB'; have hz10 := HB.size
  have lt_s_10 := blk_lt Hs.out
  have lt_m_10 := blk_lt Hm.out
  have lt_r_10 := blk_lt Hr.out
  have lt_pp_10 := blk_lt Hpp.out
  have Spp := cells9 Hpp.out
  obtain ⟨⟨qpp0, qpp1, qpp2, qpp3, qpp4, qpp5, qpp6, qpp7, qpp8⟩, zpp0, zpp1, zpp2, zpp3, zpp4, zpp5, zpp6, zpp7, zpp8⟩ := Spp
  have lt_pp := blk_lt Hpp.out
  go_wp2_with fail
  refine (HG2.out _).mono ?_
  rintro e w11 ⟨rfl, hb⟩
  clear qpp0 zpp0 qpp1 zpp1 qpp2 zpp2 qpp3 zpp3 qpp4 zpp4 qpp5 zpp5 qpp6 zpp6 qpp7 zpp7 qpp8 zpp8
  have Hs' := Lib.hid (bblock hb Hs.out); clear Hs; have Hs := Hs'; clear Hs'
  have Hm' := Lib.hid (bblock hb Hm.out); clear Hm; have Hm := Hm'; clear Hm'
  have Hr' := Lib.hid (bblock hb Hr.out); clear Hr; have Hr := Hr'; clear Hr'
  have Hpp' := Lib.hid (bblock hb Hpp.out); clear Hpp; have Hpp := Hpp'; clear Hpp'
  have HB' := below_call HB hb; clear HB hb; have HB := HB'; clear HB'; have hz11 := HB.size
  have lt_s_11 := blk_lt Hs.out
  have lt_m_11 := blk_lt Hm.out
  have lt_r_11 := blk_lt Hr.out
  have lt_pp_11 := blk_lt Hpp.out
  have qs0 := (cell_of_block (k := 0) Hs.out rfl).1; have zs0 := (cell_of_block (k := 0) Hs.out rfl).2; have qs1 := (cell_of_block (k := 1) Hs.out rfl).1; have zs1 := (cell_of_block (k := 1) Hs.out rfl).2; have qs2 := (cell_of_block (k := 2) Hs.out rfl).1; have zs2 := (cell_of_block (k := 2) Hs.out rfl).2; have qs3 := (cell_of_block (k := 3) Hs.out rfl).1; have zs3 := (cell_of_block (k := 3) Hs.out rfl).2; have qs4 := (cell_of_block (k := 4) Hs.out rfl).1; have zs4 := (cell_of_block (k := 4) Hs.out rfl).2; have qs5 := (cell_of_block (k := 5) Hs.out rfl).1; have zs5 := (cell_of_block (k := 5) Hs.out rfl).2; have qs6 := (cell_of_block (k := 6) Hs.out rfl).1; have zs6 := (cell_of_block (k := 6) Hs.out rfl).2; have qs7 := (cell_of_block (k := 7) Hs.out rfl).1; have zs7 := (cell_of_block (k := 7) Hs.out rfl).2; have qs8 := (cell_of_block (k := 8) Hs.out rfl).1; have zs8 := (cell_of_block (k := 8) Hs.out rfl).2; have qs9 := (cell_of_block (k := 9) Hs.out rfl).1; have zs9 := (cell_of_block (k := 9) Hs.out rfl).2; have qs10 := (cell_of_block (k := 10) Hs.out rfl).1; have zs10 := (cell_of_block (k := 10) Hs.out rfl).2; have qs11 := (cell_of_block (k := 11) Hs.out rfl).1; have zs11 := (cell_of_block (k := 11) Hs.out rfl).2; have qs12 := (cell_of_block (k := 12) Hs.out rfl).1; have zs12 := (cell_of_block (k := 12) Hs.out rfl).2; have lt_s := blk_lt Hs.out
  have Spp := cells9 Hpp.out
  obtain ⟨⟨qpp0, qpp1, qpp2, qpp3, qpp4, qpp5, qpp6, qpp7, qpp8⟩, zpp0, zpp1, zpp2, zpp3, zpp4, zpp5, zpp6, zpp7, zpp8⟩ := Spp
  have lt_pp := blk_lt Hpp.out
  go_wp2_with fail
  go_ret
  exact ⟨rfl, HB⟩
end Go.Proofs.YtloialpcdedekaaDoor.Sg
