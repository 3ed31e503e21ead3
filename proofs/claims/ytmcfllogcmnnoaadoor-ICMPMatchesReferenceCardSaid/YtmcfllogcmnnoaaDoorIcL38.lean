/-
  The walk of the law ICMPMatchesReference.
-/
import Derived.Test.YtmcfllogcmnnoaaDoorIcA
import Derived.Test.YtmcfllogcmnnoaaDoorIcR4
import Derived.Deep.RegionHeld3
namespace Go.Proofs.YtmcfllogcmnnoaaDoor.Ic
set_option maxRecDepth 100000
open Go.RowKit Go.Proofs.YtmcfllogcmnnoaaDoor.Wire Go.Proofs.YtmcfllogcmnnoaaDoor.Gen
open Go.Proofs.YtmcfllogcmnnoaaDoor.Ip (In64 Pk VLen pk0)

def pkEqB (p q : Pk) : Bool := (p.f == q.f) && (p.t == q.t) && (p.pr == q.pr) && (p.ttl == q.ttl) && (p.id == q.id) && (p.df == q.df) && (p.mf == q.mf) && (p.off == q.off) && (p.s.toList == q.s.toList)
theorem pkEqB_iff (p q : Pk) : pkEqB p q = true ↔ p = q := by
  obtain ⟨f, t, pr, ttl, id, df, mf, off, s⟩ := p
  obtain ⟨f', t', pr', ttl', id', df', mf', off', s'⟩ := q
  simp only [pkEqB, Bool.and_eq_true, beq_iff_eq, Pk.mk.injEq]
  constructor
  · rintro ⟨⟨⟨⟨⟨⟨⟨⟨a, b⟩, c⟩, d⟩, e⟩, g⟩, h⟩, i⟩, j⟩
    refine ⟨a, b, c, d, e, g, h, i, ?_⟩
    rw [ByteArray.toList_eq, ByteArray.toList_eq] at j
    exact ByteArray.ext (Array.ext' j)
  · rintro ⟨a, b, c, d, e, g, h, i, j⟩
    exact ⟨⟨⟨⟨⟨⟨⟨⟨a, b⟩, c⟩, d⟩, e⟩, g⟩, h⟩, i⟩, by rw [j]⟩
set_option maxRecDepth 100000 in
set_option maxHeartbeats 1000000 in
theorem eqPk (p q : Pk) : ∀ w : World, (Op.equalIn 10000 31 (.agg #[.int .i64 p.f, .int .i64 p.t, .int .i64 p.pr, .int .i64 p.ttl, .int .i64 p.id, .bool p.df, .bool p.mf, .int .i64 p.off, .string p.s]) (.agg #[.int .i64 q.f, .int .i64 q.t, .int .i64 q.pr, .int .i64 q.ttl, .int .i64 q.id, .bool q.df, .bool q.mf, .int .i64 q.off, .string q.s])).run Tryd.prog w = .ok (pkEqB p q) w := by
  intro w
  unfold pkEqB
  go_simp
  by_cases h0 : p.f = q.f
  case neg => rw [if_neg h0]; simp [h0]
  rw [if_pos h0]
  by_cases h1 : p.t = q.t
  case neg => rw [if_neg h1]; simp [h1]
  rw [if_pos h1]
  by_cases h2 : p.pr = q.pr
  case neg => rw [if_neg h2]; simp [h2]
  rw [if_pos h2]
  by_cases h3 : p.ttl = q.ttl
  case neg => rw [if_neg h3]; simp [h3]
  rw [if_pos h3]
  by_cases h4 : p.id = q.id
  case neg => rw [if_neg h4]; simp [h4]
  rw [if_pos h4]
  by_cases h5 : p.df = q.df
  case neg => rw [if_neg h5]; simp [h5]
  rw [if_pos h5]
  by_cases h6 : p.mf = q.mf
  case neg => rw [if_neg h6]; simp [h6]
  rw [if_pos h6]
  by_cases h7 : p.off = q.off
  case neg => rw [if_neg h7]; simp [h7]
  rw [if_pos h7]
  by_cases h8 : p.s.toList = q.s.toList
  case neg => rw [if_neg h8]; simp [h8]
  rw [if_pos h8]
  simp [h0, h1, h2, h3, h4, h5, h6, h7, h8]
theorem wrap_u8 (n : Int) (h0 : 0 ≤ n) (h1 : n ≤ 255) : IntKind.u8.wrap n = n := by rw [IntKind.wrap_u8]; omega
theorem eqMsg3 (k c n : Int) (s : ByteArray) (k' c' n' : Int) (s' : ByteArray) : ∀ w : World, (Op.equalIn 10000 23 (.agg #[.int .i64 k, .int .i64 c, .int .i64 n, .string s]) (.agg #[.int .i64 k', .int .i64 c', .int .i64 n', .string s'])).run Tryd.prog w = .ok (decide (k = k' ∧ c = c' ∧ n = n' ∧ s = s')) w := by
  intro w
  go_simp
  by_cases h0 : k = k'
  case neg => simp [h0]
  by_cases h1 : c = c'
  case neg => simp [h0, h1]
  by_cases h2 : n = n'
  case neg => simp [h0, h1, h2]
  by_cases h3 : s = s'
  · subst h3; simp [h0, h1, h2]
  · have := ba_ne h3
    rw [beq_eq_false_iff_ne] at this
    simp [h0, h1, h2, h3, this]
theorem enc_both (k c n : Int) (s : ByteArray) (hs : s.size ≤ 9223372036854775807) : ∃ (A : ByteArray) (er : Int), Hid (∀ W, Calls Tryd.prog 14 #[.agg #[.int .i64 k, .int .i64 c, .int .i64 n, .string s]] W fun e w' => e = .returned (.tuple #[.string A, .int .i64 er]) ∧ Below W.heap.size W w') ∧ Hid (∀ W, Calls Tryd.prog 15 #[.agg #[.int .i64 k, .int .i64 c, .int .i64 n, .string s]] W fun e w' => e = .returned (.tuple #[.string A, .int .i64 er]) ∧ Below W.heap.size W w') := by
  by_cases h : MOk k c n s.size
  · exact ⟨_, _, Lib.hid fun W => encode_ok k c n s W h, Lib.hid fun W => rMEncode_ok k c n s W h⟩
  · exact ⟨_, _, Lib.hid fun W => encode_no k c n s W hs h, Lib.hid fun W => rMEncode_no k c n s W hs h⟩
theorem dec_both (t : ByteArray) (a0 a1 : Addr) (ht : t.size ≤ 600) : ∃ (d0 d1 d2 : Int) (ds : ByteArray) (er : Int), Hid (∀ W, GlE W a0 a1 → Calls Tryd.prog 16 #[.string t] W fun e w' => e = .returned (.tuple #[.agg #[.int .i64 d0, .int .i64 d1, .int .i64 d2, .string ds], .int .i64 er]) ∧ Below W.heap.size W w') ∧ Hid (∀ W, Calls Tryd.prog 17 #[.string t] W fun e w' => e = .returned (.tuple #[.agg #[.int .i64 d0, .int .i64 d1, .int .i64 d2, .string ds], .int .i64 er]) ∧ Below W.heap.size W w') := by
  by_cases h : dcK t
  · refine ⟨fval t 0, fval t 1, fval t 3, tailOf t, 0, Lib.hid fun W hw => ?_, Lib.hid fun W => ?_⟩
    · refine (decode_any t (by omega) a0 a1 W hw).mono ?_
      rintro e w' ⟨hb, ⟨-, rfl⟩ | ⟨q, -⟩⟩
      · exact ⟨rfl, hb⟩
      · exact absurd h q
    · refine (rDecode_any t ht W).mono ?_
      rintro e w' ⟨hb, ⟨-, rfl⟩ | ⟨q, -⟩⟩
      · exact ⟨rfl, hb⟩
      · exact absurd h q
  · refine ⟨0, 0, 0, ⟨#[]⟩, 80, Lib.hid fun W hw => ?_, Lib.hid fun W => ?_⟩
    · refine (decode_any t (by omega) a0 a1 W hw).mono ?_
      rintro e w' ⟨hb, ⟨q, -⟩ | ⟨-, rfl⟩⟩
      · exact absurd q h
      · exact ⟨rfl, hb⟩
    · refine (rDecode_any t ht W).mono ?_
      rintro e w' ⟨hb, ⟨q, -⟩ | ⟨-, rfl⟩⟩
      · exact absurd q h
      · exact ⟨rfl, hb⟩
theorem quo_both (k c n : Int) (s : ByteArray) (hs : s.size ≤ 9223372036854775807) : ∃ (p : Pk) (b : Bool), Hid (∀ W, Calls Tryd.prog 18 #[.agg #[.int .i64 k, .int .i64 c, .int .i64 n, .string s]] W fun e w' => e = .returned (.tuple #[.agg #[.int .i64 p.f, .int .i64 p.t, .int .i64 p.pr, .int .i64 p.ttl, .int .i64 p.id, .bool p.df, .bool p.mf, .int .i64 p.off, .string p.s], .bool b]) ∧ Below W.heap.size W w') ∧ Hid (∀ W, Calls Tryd.prog 19 #[.agg #[.int .i64 k, .int .i64 c, .int .i64 n, .string s]] W fun e w' => e = .returned (.tuple #[.agg #[.int .i64 p.f, .int .i64 p.t, .int .i64 p.pr, .int .i64 p.ttl, .int .i64 p.id, .bool p.df, .bool p.mf, .int .i64 p.off, .string p.s], .bool b]) ∧ Below W.heap.size W w') := by
  by_cases h : quOk k c n s
  · refine ⟨pkS s, true, Lib.hid fun W => ?_, Lib.hid fun W => ?_⟩
    · refine (quoted_any k c n s W hs).mono ?_
      rintro e w' ⟨⟨-, rfl⟩ | ⟨q, -⟩, hb⟩
      · exact ⟨rfl, hb⟩
      · exact absurd h q
    · refine (rQuoted_any k c n s W hs).mono ?_
      rintro e w' ⟨⟨-, rfl⟩ | ⟨q, -⟩, hb⟩
      · exact ⟨rfl, hb⟩
      · exact absurd h q
  · refine ⟨{ f := 0, t := 0, pr := 0, ttl := 0, id := 0, df := false, mf := false, off := 0, s := ⟨#[]⟩ }, false, Lib.hid fun W => ?_, Lib.hid fun W => ?_⟩
    · refine (quoted_any k c n s W hs).mono ?_
      rintro e w' ⟨⟨q, -⟩ | ⟨-, rfl⟩, hb⟩
      · exact absurd q h
      · exact ⟨rfl, hb⟩
    · refine (rQuoted_any k c n s W hs).mono ?_
      rintro e w' ⟨⟨q, -⟩ | ⟨-, rfl⟩, hb⟩
      · exact absurd q h
      · exact ⟨rfl, hb⟩
set_option maxHeartbeats 8000000 in
theorem match_law (k c n : Int) (xs st : ByteArray) (a0 a1 : Addr) (w : World) (hg : GlE w a0 a1) (hs : xs.size ≤ 9223372036854775807) (ht : st.size ≤ 9223372036854775807) :
    Calls Tryd.prog 3 #[.agg #[.int .i64 k, .int .i64 c, .int .i64 n, .string xs], .string st] w fun e w' => e = .returned (.bool true) ∧ Below w.heap.size w w' := by
  have hg0 := Lib.hid hg; clear hg
  have m1 : (0 : Int) ≤ min (xs.size : Int) 510 ∧ min (xs.size : Int) 510 ≤ (xs.size : Int) := by omega
  have m2 : (0 : Int) ≤ min (st.size : Int) 600 ∧ min (st.size : Int) 600 ≤ (st.size : Int) := by omega
  obtain ⟨s, hS1⟩ : ∃ s, Hid (xs.extract 0 (min (xs.size : Int) 510).toNat = s) := ⟨_, Lib.hid rfl⟩
  obtain ⟨t, hS2⟩ : ∃ t, Hid (st.extract 0 (min (st.size : Int) 600).toNat = t) := ⟨_, Lib.hid rfl⟩
  have hsz : s.size ≤ 9223372036854775807 := by rw [← hS1.out, ByteArray.size_extract]; omega
  have htz : t.size ≤ 600 := by rw [← hS2.out, ByteArray.size_extract]; omega
  obtain ⟨A, er, HE1, HE2⟩ := enc_both k c n s hsz
  obtain ⟨d0, d1, d2, ds, de, HD1, HD2⟩ := dec_both t a0 a1 htz
  obtain ⟨p, b, HQ1, HQ2⟩ := quo_both k c n s hsz
  have HV1 := Lib.hid fun W => valid_any k c n s W hsz
  have HV2 := Lib.hid fun W => rMValid_any k c n s W hsz
  have heq1 := eqMsg3 d0 d1 d2 ds d0 d1 d2 ds
  rw [decide_eq_true (by exact ⟨rfl, rfl, rfl, rfl⟩)] at heq1
  have heq2 := eqPk p p
  rw [show pkEqB p p = true from (pkEqB_iff p p).2 rfl] at heq2
  generalize mokB k c n s.size = mb at *
  go_enter Tryd.func3, Tryd.ntmps3
  have HB := Below.refl w.heap.size w
  have Hx := Lib.hid (alloc_new' w (.cells #[.int .i64 k, .int .i64 c, .int .i64 n, .string xs] 23) (w.heap.size) (by simp))
  have HB' := below_alloc (o := .cells #[.int .i64 k, .int .i64 c, .int .i64 n, .string xs] 23) HB; clear HB; have HB := HB'; clear HB'
  go_wp2_with fail
  refine (sane_any a0 a1 _ (hg0.out.below HB)).mono ?_
  rintro e w1 ⟨rfl, hb⟩
  have Hx' := Lib.hid (bblock hb Hx.out); clear Hx; have Hx := Hx'; clear Hx'
  have HB' := below_call HB hb; clear HB hb; have HB := HB'; clear HB'; have hz1 := HB.size
  have lt_x_1 := blk_lt Hx.out
  have Sx := cells4 Hx.out
  obtain ⟨⟨qx0, qx1, qx2, qx3⟩, zx0, zx1, zx2, zx3⟩ := Sx
  have lt_x := blk_lt Hx.out
  go_upto_region 4 with fail
  rw [hS1.out, hS2.out]
  clear qx0 zx0 qx1 zx1 qx2 zx2 qx3 zx3
  have Hx' := Lib.hid (cells_eq (b := #[.int .i64 k, .int .i64 c, .int .i64 n, .string s]) (block_setCell (k := 3) (v := .string s) Hx.out) rfl); clear Hx; have Hx := Hx'; clear Hx'
  have HB' := Below.setCell HB (p := ⟨w.heap.size, 3, none⟩) (by first | (simp; done) | (simp; omega)) (.string s); clear HB; have HB := HB'; clear HB'
  generalize World.setCell w1 ⟨w.heap.size, 3, none⟩ (.string s) = W4 at *
  have Sx := cells4 Hx.out
  obtain ⟨⟨qx0, qx1, qx2, qx3⟩, zx0, zx1, zx2, zx3⟩ := Sx
  have lt_x := blk_lt Hx.out
  go_wp2_with fail
  refine (HE1.out _).mono ?_
  rintro e w2 ⟨rfl, hb⟩
  clear qx0 zx0 qx1 zx1 qx2 zx2 qx3 zx3
  have Hx' := Lib.hid (bblock hb Hx.out); clear Hx; have Hx := Hx'; clear Hx'
  have HB' := below_call HB hb; clear HB hb; have HB := HB'; clear HB'; have hz2 := HB.size
  have lt_x_2 := blk_lt Hx.out
  have Sx := cells4 Hx.out
  obtain ⟨⟨qx0, qx1, qx2, qx3⟩, zx0, zx1, zx2, zx3⟩ := Sx
  have lt_x := blk_lt Hx.out
  go_wp2_with fail
  refine (HE2.out _).mono ?_
  rintro e w3 ⟨rfl, hb⟩
  clear qx0 zx0 qx1 zx1 qx2 zx2 qx3 zx3
  have Hx' := Lib.hid (bblock hb Hx.out); clear Hx; have Hx := Hx'; clear Hx'
  have HB' := below_call HB hb; clear HB hb; have HB := HB'; clear HB'; have hz3 := HB.size
  have lt_x_3 := blk_lt Hx.out
  go_wp2_with fail
  refine (HD1.out _ (hg0.out.below HB)).mono ?_
  rintro e w4 ⟨rfl, hb⟩
  have Hx' := Lib.hid (bblock hb Hx.out); clear Hx; have Hx := Hx'; clear Hx'
  have HB' := below_call HB hb; clear HB hb; have HB := HB'; clear HB'; have hz4 := HB.size
  have lt_x_4 := blk_lt Hx.out
  have Hc := Lib.hid (alloc_new' w4 (.cells #[.int .i64 d0, .int .i64 d1, .int .i64 d2, .string ds] 23) (w4.heap.size) (by simp))
  have Hx' := Lib.hid (block_alloc Hx.out (.cells #[.int .i64 d0, .int .i64 d1, .int .i64 d2, .string ds] 23)); clear Hx; have Hx := Hx'; clear Hx'
  have HB' := below_alloc (o := .cells #[.int .i64 d0, .int .i64 d1, .int .i64 d2, .string ds] 23) HB; clear HB; have HB := HB'; clear HB'
  go_wp2_with fail
  refine (HD2.out _).mono ?_
  rintro e w5 ⟨rfl, hb⟩
  have Hx' := Lib.hid (bblock hb Hx.out); clear Hx; have Hx := Hx'; clear Hx'
  have Hc' := Lib.hid (bblock hb Hc.out); clear Hc; have Hc := Hc'; clear Hc'
  have HB' := below_call HB hb; clear HB hb; have HB := HB'; clear HB'; have hz5 := HB.size
  have lt_x_5 := blk_lt Hx.out
  have lt_c_5 := blk_lt Hc.out
  have Hd := Lib.hid (alloc_new' w5 (.cells #[.int .i64 d0, .int .i64 d1, .int .i64 d2, .string ds] 23) (w5.heap.size) (by simp))
  have Hx' := Lib.hid (block_alloc Hx.out (.cells #[.int .i64 d0, .int .i64 d1, .int .i64 d2, .string ds] 23)); clear Hx; have Hx := Hx'; clear Hx'
  have Hc' := Lib.hid (block_alloc Hc.out (.cells #[.int .i64 d0, .int .i64 d1, .int .i64 d2, .string ds] 23)); clear Hc; have Hc := Hc'; clear Hc'
  have HB' := below_alloc (o := .cells #[.int .i64 d0, .int .i64 d1, .int .i64 d2, .string ds] 23) HB; clear HB; have HB := HB'; clear HB'
  have Sx := cells4 Hx.out
  obtain ⟨⟨qx0, qx1, qx2, qx3⟩, zx0, zx1, zx2, zx3⟩ := Sx
  have lt_x := blk_lt Hx.out
  go_wp2_with fail
  refine (HQ1.out _).mono ?_
  rintro e w6 ⟨rfl, hb⟩
  clear qx0 zx0 qx1 zx1 qx2 zx2 qx3 zx3
  have Hx' := Lib.hid (bblock hb Hx.out); clear Hx; have Hx := Hx'; clear Hx'
  have Hc' := Lib.hid (bblock hb Hc.out); clear Hc; have Hc := Hc'; clear Hc'
  have Hd' := Lib.hid (bblock hb Hd.out); clear Hd; have Hd := Hd'; clear Hd'
  have HB' := below_call HB hb; clear HB hb; have HB := HB'; clear HB'; have hz6 := HB.size
  have lt_x_6 := blk_lt Hx.out
  have lt_c_6 := blk_lt Hc.out
  have lt_d_6 := blk_lt Hd.out
  have Hp := Lib.hid (alloc_new' w6 (.cells #[.int .i64 p.f, .int .i64 p.t, .int .i64 p.pr, .int .i64 p.ttl, .int .i64 p.id, .bool p.df, .bool p.mf, .int .i64 p.off, .string p.s] 31) (w6.heap.size) (by simp))
  have Hx' := Lib.hid (block_alloc Hx.out (.cells #[.int .i64 p.f, .int .i64 p.t, .int .i64 p.pr, .int .i64 p.ttl, .int .i64 p.id, .bool p.df, .bool p.mf, .int .i64 p.off, .string p.s] 31)); clear Hx; have Hx := Hx'; clear Hx'
  have Hc' := Lib.hid (block_alloc Hc.out (.cells #[.int .i64 p.f, .int .i64 p.t, .int .i64 p.pr, .int .i64 p.ttl, .int .i64 p.id, .bool p.df, .bool p.mf, .int .i64 p.off, .string p.s] 31)); clear Hc; have Hc := Hc'; clear Hc'
  have Hd' := Lib.hid (block_alloc Hd.out (.cells #[.int .i64 p.f, .int .i64 p.t, .int .i64 p.pr, .int .i64 p.ttl, .int .i64 p.id, .bool p.df, .bool p.mf, .int .i64 p.off, .string p.s] 31)); clear Hd; have Hd := Hd'; clear Hd'
  have HB' := below_alloc (o := .cells #[.int .i64 p.f, .int .i64 p.t, .int .i64 p.pr, .int .i64 p.ttl, .int .i64 p.id, .bool p.df, .bool p.mf, .int .i64 p.off, .string p.s] 31) HB; clear HB; have HB := HB'; clear HB'
  have Sx := cells4 Hx.out
  obtain ⟨⟨qx0, qx1, qx2, qx3⟩, zx0, zx1, zx2, zx3⟩ := Sx
  have lt_x := blk_lt Hx.out
  go_wp2_with fail
  refine (HQ2.out _).mono ?_
  rintro e w7 ⟨rfl, hb⟩
  clear qx0 zx0 qx1 zx1 qx2 zx2 qx3 zx3
  have Hx' := Lib.hid (bblock hb Hx.out); clear Hx; have Hx := Hx'; clear Hx'
  have Hc' := Lib.hid (bblock hb Hc.out); clear Hc; have Hc := Hc'; clear Hc'
  have Hd' := Lib.hid (bblock hb Hd.out); clear Hd; have Hd := Hd'; clear Hd'
  have Hp' := Lib.hid (bblock hb Hp.out); clear Hp; have Hp := Hp'; clear Hp'
  have HB' := below_call HB hb; clear HB hb; have HB := HB'; clear HB'; have hz7 := HB.size
  have lt_x_7 := blk_lt Hx.out
  have lt_c_7 := blk_lt Hc.out
  have lt_d_7 := blk_lt Hd.out
  have lt_p_7 := blk_lt Hp.out
  have Hq := Lib.hid (alloc_new' w7 (.cells #[.int .i64 p.f, .int .i64 p.t, .int .i64 p.pr, .int .i64 p.ttl, .int .i64 p.id, .bool p.df, .bool p.mf, .int .i64 p.off, .string p.s] 31) (w7.heap.size) (by simp))
  have Hx' := Lib.hid (block_alloc Hx.out (.cells #[.int .i64 p.f, .int .i64 p.t, .int .i64 p.pr, .int .i64 p.ttl, .int .i64 p.id, .bool p.df, .bool p.mf, .int .i64 p.off, .string p.s] 31)); clear Hx; have Hx := Hx'; clear Hx'
  have Hc' := Lib.hid (block_alloc Hc.out (.cells #[.int .i64 p.f, .int .i64 p.t, .int .i64 p.pr, .int .i64 p.ttl, .int .i64 p.id, .bool p.df, .bool p.mf, .int .i64 p.off, .string p.s] 31)); clear Hc; have Hc := Hc'; clear Hc'
  have Hd' := Lib.hid (block_alloc Hd.out (.cells #[.int .i64 p.f, .int .i64 p.t, .int .i64 p.pr, .int .i64 p.ttl, .int .i64 p.id, .bool p.df, .bool p.mf, .int .i64 p.off, .string p.s] 31)); clear Hd; have Hd := Hd'; clear Hd'
  have Hp' := Lib.hid (block_alloc Hp.out (.cells #[.int .i64 p.f, .int .i64 p.t, .int .i64 p.pr, .int .i64 p.ttl, .int .i64 p.id, .bool p.df, .bool p.mf, .int .i64 p.off, .string p.s] 31)); clear Hp; have Hp := Hp'; clear Hp'
  have HB' := below_alloc (o := .cells #[.int .i64 p.f, .int .i64 p.t, .int .i64 p.pr, .int .i64 p.ttl, .int .i64 p.id, .bool p.df, .bool p.mf, .int .i64 p.off, .string p.s] 31) HB; clear HB; have HB := HB'; clear HB'
  go_upto_region 10 with fail
  generalize w7.alloc (.cells #[.int .i64 p.f, .int .i64 p.t, .int .i64 p.pr, .int .i64 p.ttl, .int .i64 p.id, .bool p.df, .bool p.mf, .int .i64 p.off, .string p.s] 31) = W9 at *
  have HR := Below.refl W9.heap.size W9
  have gx0 : Hid (W9.cell? ⟨w.heap.size, 0, none⟩ = some (.int .i64 k)) := Lib.hid (cell_of_block (k := 0) Hx.out rfl).1
  have gx1 : Hid (W9.cell? ⟨w.heap.size, 1, none⟩ = some (.int .i64 c)) := Lib.hid (cell_of_block (k := 1) Hx.out rfl).1
  have gx2 : Hid (W9.cell? ⟨w.heap.size, 2, none⟩ = some (.int .i64 n)) := Lib.hid (cell_of_block (k := 2) Hx.out rfl).1
  have gx3 : Hid (W9.cell? ⟨w.heap.size, 3, none⟩ = some (.string s)) := Lib.hid (cell_of_block (k := 3) Hx.out rfl).1
  have gc0 : Hid (W9.cell? ⟨w4.heap.size, 0, none⟩ = some (.int .i64 d0)) := Lib.hid (cell_of_block (k := 0) Hc.out rfl).1
  have gc1 : Hid (W9.cell? ⟨w4.heap.size, 1, none⟩ = some (.int .i64 d1)) := Lib.hid (cell_of_block (k := 1) Hc.out rfl).1
  have gc2 : Hid (W9.cell? ⟨w4.heap.size, 2, none⟩ = some (.int .i64 d2)) := Lib.hid (cell_of_block (k := 2) Hc.out rfl).1
  have gc3 : Hid (W9.cell? ⟨w4.heap.size, 3, none⟩ = some (.string ds)) := Lib.hid (cell_of_block (k := 3) Hc.out rfl).1
  have gd0 : Hid (W9.cell? ⟨w5.heap.size, 0, none⟩ = some (.int .i64 d0)) := Lib.hid (cell_of_block (k := 0) Hd.out rfl).1
  have gd1 : Hid (W9.cell? ⟨w5.heap.size, 1, none⟩ = some (.int .i64 d1)) := Lib.hid (cell_of_block (k := 1) Hd.out rfl).1
  have gd2 : Hid (W9.cell? ⟨w5.heap.size, 2, none⟩ = some (.int .i64 d2)) := Lib.hid (cell_of_block (k := 2) Hd.out rfl).1
  have gd3 : Hid (W9.cell? ⟨w5.heap.size, 3, none⟩ = some (.string ds)) := Lib.hid (cell_of_block (k := 3) Hd.out rfl).1
  have gp0 : Hid (W9.cell? ⟨w6.heap.size, 0, none⟩ = some (.int .i64 p.f)) := Lib.hid (cell_of_block (k := 0) Hp.out rfl).1
  have gp1 : Hid (W9.cell? ⟨w6.heap.size, 1, none⟩ = some (.int .i64 p.t)) := Lib.hid (cell_of_block (k := 1) Hp.out rfl).1
  have gp2 : Hid (W9.cell? ⟨w6.heap.size, 2, none⟩ = some (.int .i64 p.pr)) := Lib.hid (cell_of_block (k := 2) Hp.out rfl).1
  have gp3 : Hid (W9.cell? ⟨w6.heap.size, 3, none⟩ = some (.int .i64 p.ttl)) := Lib.hid (cell_of_block (k := 3) Hp.out rfl).1
  have gp4 : Hid (W9.cell? ⟨w6.heap.size, 4, none⟩ = some (.int .i64 p.id)) := Lib.hid (cell_of_block (k := 4) Hp.out rfl).1
  have gp5 : Hid (W9.cell? ⟨w6.heap.size, 5, none⟩ = some (.bool p.df)) := Lib.hid (cell_of_block (k := 5) Hp.out rfl).1
  have gp6 : Hid (W9.cell? ⟨w6.heap.size, 6, none⟩ = some (.bool p.mf)) := Lib.hid (cell_of_block (k := 6) Hp.out rfl).1
  have gp7 : Hid (W9.cell? ⟨w6.heap.size, 7, none⟩ = some (.int .i64 p.off)) := Lib.hid (cell_of_block (k := 7) Hp.out rfl).1
  have gp8 : Hid (W9.cell? ⟨w6.heap.size, 8, none⟩ = some (.string p.s)) := Lib.hid (cell_of_block (k := 8) Hp.out rfl).1
  have gq0 : Hid (W9.cell? ⟨w7.heap.size, 0, none⟩ = some (.int .i64 p.f)) := Lib.hid (cell_of_block (k := 0) Hq.out rfl).1
  have gq1 : Hid (W9.cell? ⟨w7.heap.size, 1, none⟩ = some (.int .i64 p.t)) := Lib.hid (cell_of_block (k := 1) Hq.out rfl).1
  have gq2 : Hid (W9.cell? ⟨w7.heap.size, 2, none⟩ = some (.int .i64 p.pr)) := Lib.hid (cell_of_block (k := 2) Hq.out rfl).1
  have gq3 : Hid (W9.cell? ⟨w7.heap.size, 3, none⟩ = some (.int .i64 p.ttl)) := Lib.hid (cell_of_block (k := 3) Hq.out rfl).1
  have gq4 : Hid (W9.cell? ⟨w7.heap.size, 4, none⟩ = some (.int .i64 p.id)) := Lib.hid (cell_of_block (k := 4) Hq.out rfl).1
  have gq5 : Hid (W9.cell? ⟨w7.heap.size, 5, none⟩ = some (.bool p.df)) := Lib.hid (cell_of_block (k := 5) Hq.out rfl).1
  have gq6 : Hid (W9.cell? ⟨w7.heap.size, 6, none⟩ = some (.bool p.mf)) := Lib.hid (cell_of_block (k := 6) Hq.out rfl).1
  have gq7 : Hid (W9.cell? ⟨w7.heap.size, 7, none⟩ = some (.int .i64 p.off)) := Lib.hid (cell_of_block (k := 7) Hq.out rfl).1
  have gq8 : Hid (W9.cell? ⟨w7.heap.size, 8, none⟩ = some (.string p.s)) := Lib.hid (cell_of_block (k := 8) Hq.out rfl).1
  go_region_held3 (fun w' => w'.cell? ⟨w.heap.size, 0, none⟩ = some (.int .i64 k) ∧ w'.cell? ⟨w.heap.size, 1, none⟩ = some (.int .i64 c) ∧ w'.cell? ⟨w.heap.size, 2, none⟩ = some (.int .i64 n) ∧ w'.cell? ⟨w.heap.size, 3, none⟩ = some (.string s) ∧ w'.cell? ⟨w4.heap.size, 0, none⟩ = some (.int .i64 d0) ∧ w'.cell? ⟨w4.heap.size, 1, none⟩ = some (.int .i64 d1) ∧ w'.cell? ⟨w4.heap.size, 2, none⟩ = some (.int .i64 d2) ∧ w'.cell? ⟨w4.heap.size, 3, none⟩ = some (.string ds) ∧ w'.cell? ⟨w5.heap.size, 0, none⟩ = some (.int .i64 d0) ∧ w'.cell? ⟨w5.heap.size, 1, none⟩ = some (.int .i64 d1) ∧ w'.cell? ⟨w5.heap.size, 2, none⟩ = some (.int .i64 d2) ∧ w'.cell? ⟨w5.heap.size, 3, none⟩ = some (.string ds) ∧ w'.cell? ⟨w6.heap.size, 0, none⟩ = some (.int .i64 p.f) ∧ w'.cell? ⟨w6.heap.size, 1, none⟩ = some (.int .i64 p.t) ∧ w'.cell? ⟨w6.heap.size, 2, none⟩ = some (.int .i64 p.pr) ∧ w'.cell? ⟨w6.heap.size, 3, none⟩ = some (.int .i64 p.ttl) ∧ w'.cell? ⟨w6.heap.size, 4, none⟩ = some (.int .i64 p.id) ∧ w'.cell? ⟨w6.heap.size, 5, none⟩ = some (.bool p.df) ∧ w'.cell? ⟨w6.heap.size, 6, none⟩ = some (.bool p.mf) ∧ w'.cell? ⟨w6.heap.size, 7, none⟩ = some (.int .i64 p.off) ∧ w'.cell? ⟨w6.heap.size, 8, none⟩ = some (.string p.s) ∧ w'.cell? ⟨w7.heap.size, 0, none⟩ = some (.int .i64 p.f) ∧ w'.cell? ⟨w7.heap.size, 1, none⟩ = some (.int .i64 p.t) ∧ w'.cell? ⟨w7.heap.size, 2, none⟩ = some (.int .i64 p.pr) ∧ w'.cell? ⟨w7.heap.size, 3, none⟩ = some (.int .i64 p.ttl) ∧ w'.cell? ⟨w7.heap.size, 4, none⟩ = some (.int .i64 p.id) ∧ w'.cell? ⟨w7.heap.size, 5, none⟩ = some (.bool p.df) ∧ w'.cell? ⟨w7.heap.size, 6, none⟩ = some (.bool p.mf) ∧ w'.cell? ⟨w7.heap.size, 7, none⟩ = some (.int .i64 p.off) ∧ w'.cell? ⟨w7.heap.size, 8, none⟩ = some (.string p.s) ∧ Below W9.heap.size W9 w') (first | with_reducible exact ⟨bcell (hRv2.out) gx0.out, bcell (hRv2.out) gx1.out, bcell (hRv2.out) gx2.out, bcell (hRv2.out) gx3.out, bcell (hRv2.out) gc0.out, bcell (hRv2.out) gc1.out, bcell (hRv2.out) gc2.out, bcell (hRv2.out) gc3.out, bcell (hRv2.out) gd0.out, bcell (hRv2.out) gd1.out, bcell (hRv2.out) gd2.out, bcell (hRv2.out) gd3.out, bcell (hRv2.out) gp0.out, bcell (hRv2.out) gp1.out, bcell (hRv2.out) gp2.out, bcell (hRv2.out) gp3.out, bcell (hRv2.out) gp4.out, bcell (hRv2.out) gp5.out, bcell (hRv2.out) gp6.out, bcell (hRv2.out) gp7.out, bcell (hRv2.out) gp8.out, bcell (hRv2.out) gq0.out, bcell (hRv2.out) gq1.out, bcell (hRv2.out) gq2.out, bcell (hRv2.out) gq3.out, bcell (hRv2.out) gq4.out, bcell (hRv2.out) gq5.out, bcell (hRv2.out) gq6.out, bcell (hRv2.out) gq7.out, bcell (hRv2.out) gq8.out, hRv2.out⟩ | with_reducible exact ⟨bcell (hRv1.out) gx0.out, bcell (hRv1.out) gx1.out, bcell (hRv1.out) gx2.out, bcell (hRv1.out) gx3.out, bcell (hRv1.out) gc0.out, bcell (hRv1.out) gc1.out, bcell (hRv1.out) gc2.out, bcell (hRv1.out) gc3.out, bcell (hRv1.out) gd0.out, bcell (hRv1.out) gd1.out, bcell (hRv1.out) gd2.out, bcell (hRv1.out) gd3.out, bcell (hRv1.out) gp0.out, bcell (hRv1.out) gp1.out, bcell (hRv1.out) gp2.out, bcell (hRv1.out) gp3.out, bcell (hRv1.out) gp4.out, bcell (hRv1.out) gp5.out, bcell (hRv1.out) gp6.out, bcell (hRv1.out) gp7.out, bcell (hRv1.out) gp8.out, bcell (hRv1.out) gq0.out, bcell (hRv1.out) gq1.out, bcell (hRv1.out) gq2.out, bcell (hRv1.out) gq3.out, bcell (hRv1.out) gq4.out, bcell (hRv1.out) gq5.out, bcell (hRv1.out) gq6.out, bcell (hRv1.out) gq7.out, bcell (hRv1.out) gq8.out, hRv1.out⟩ | exact ⟨gx0.out, gx1.out, gx2.out, gx3.out, gc0.out, gc1.out, gc2.out, gc3.out, gd0.out, gd1.out, gd2.out, gd3.out, gp0.out, gp1.out, gp2.out, gp3.out, gp4.out, gp5.out, gp6.out, gp7.out, gp8.out, gq0.out, gq1.out, gq2.out, gq3.out, gq4.out, gq5.out, gq6.out, gq7.out, gq8.out, HR.drew⟩)
    (first | (go_at_call 21; have _t := hRv1; clear _t; refine (HV2.out _).mono ?_; rintro e v2 ⟨rfl, hbv2⟩; have hRv2 := Lib.hid (below_call hRv1.out hbv2)) | (go_at_call 20; refine (HV1.out _).mono ?_; rintro e v1 ⟨rfl, hbv1⟩; have hRv1 := Lib.hid (below_call HR.drew hbv1)))
  have hb := hRv2.out
  clear HR hRv1 hbv1 hRv2 hbv2 gx0 gx1 gx2 gx3 gc0 gc1 gc2 gc3 gd0 gd1 gd2 gd3 gp0 gp1 gp2 gp3 gp4 gp5 gp6 gp7 gp8 gq0 gq1 gq2 gq3 gq4 gq5 gq6 gq7 gq8
  have Hx' := Lib.hid (bblock hb Hx.out); clear Hx; have Hx := Hx'; clear Hx'
  have Hc' := Lib.hid (bblock hb Hc.out); clear Hc; have Hc := Hc'; clear Hc'
  have Hd' := Lib.hid (bblock hb Hd.out); clear Hd; have Hd := Hd'; clear Hd'
  have Hp' := Lib.hid (bblock hb Hp.out); clear Hp; have Hp := Hp'; clear Hp'
  have Hq' := Lib.hid (bblock hb Hq.out); clear Hq; have Hq := Hq'; clear Hq'
  have HB' := below_call HB hb; clear HB hb; have HB := HB'; clear HB'; have hz := HB.size
  go_wp2_with fail
  go_ret
  exact ⟨rfl, HB⟩
end Go.Proofs.YtmcfllogcmnnoaaDoor.Ic
