/-
  The walk of the law ICMPRoundTrip.
-/
import Derived.Test.YtmcfllogcmnnoaaDoorIcMsg
namespace Go.Proofs.YtmcfllogcmnnoaaDoor.Ic
set_option maxRecDepth 100000
open Go.RowKit Go.Proofs.YtmcfllogcmnnoaaDoor.Wire Go.Proofs.YtmcfllogcmnnoaaDoor.Gen
open Go.Proofs.YtmcfllogcmnnoaaDoor.Ip (In64)

theorem eqMsg (k c n : Int) (s : ByteArray) (k' c' n' : Int) (s' : ByteArray) : ∀ w : World, (Op.equalIn 10000 23 (.agg #[.int .i64 k, .int .i64 c, .int .i64 n, .string s]) (.agg #[.int .i64 k', .int .i64 c', .int .i64 n', .string s'])).run Tryd.prog w = .ok (decide (k = k' ∧ c = c' ∧ n = n' ∧ s = s')) w := by
  intro w
  go_simp
  by_cases h0 : k = k'
  case neg => simp [h0]
  by_cases h1 : c = c'
  case neg => simp [h0, h1]
  by_cases h2 : n = n'
  case neg => simp [h0, h1, h2]
  by_cases h3 : s = s'
  · subst h3; simp [h0, h1, h2]
  · have := ba_ne h3
    rw [beq_eq_false_iff_ne] at this
    simp [h0, h1, h2, h3, this]
set_option maxHeartbeats 4000000 in
theorem rt_law (x0 x1 x2 : Int) (xs : ByteArray) (a0 a1 : Addr) (w : World) (hg : GlE w a0 a1) (h0 : In64 x0) (h1 : In64 x1) (h2 : In64 x2) (hs : xs.size ≤ 9223372036854775807) :
    Calls Tryd.prog 5 #[.agg #[.int .i64 x0, .int .i64 x1, .int .i64 x2, .string xs]] w fun e w' => e = .returned (.bool true) ∧ Below w.heap.size w w' := by
  have hg0 := Lib.hid hg
  go_enter Tryd.func5, Tryd.ntmps5
  have HB := Below.refl w.heap.size w
  have Hx := Lib.hid (alloc_new' w (.cells #[.int .i64 x0, .int .i64 x1, .int .i64 x2, .string xs] 23) (w.heap.size) (by simp))
  have HB' := below_alloc (o := .cells #[.int .i64 x0, .int .i64 x1, .int .i64 x2, .string xs] 23) HB; clear HB; have HB := HB'; clear HB'
  go_wp2_with fail
  refine (sane_any a0 a1 _ (hg.below HB)).mono ?_
  rintro e w1 ⟨rfl, hb⟩
  have Hx' := Lib.hid (bblock hb Hx.out); clear Hx; have Hx := Hx'; clear Hx'
  have HB' := below_call HB hb; clear HB hb; have HB := HB'; clear HB'; have hz1 := HB.size
  have lt_x_1 := blk_lt Hx.out
  skip
  have Sx := cells4 Hx.out
  obtain ⟨⟨qx0, qx1, qx2, qx3⟩, zx0, zx1, zx2, zx3⟩ := Sx
  have lt_x := blk_lt Hx.out
  go_wp2_with fail
  refine (msg_any x0 x1 x2 xs _ h0 h1 h2 hs).mono ?_
  rintro e w2 ⟨k, c, n, s, hok, rfl, hb⟩
  clear qx0 zx0 qx1 zx1 qx2 zx2 qx3 zx3
  have Hx' := Lib.hid (bblock hb Hx.out); clear Hx; have Hx := Hx'; clear Hx'
  have HB' := below_call HB hb; clear HB hb; have HB := HB'; clear HB'; have hz2 := HB.size
  have lt_x_2 := blk_lt Hx.out
  clear Hx
  have Hm := Lib.hid (alloc_new' w2 (.cells #[.int .i64 k, .int .i64 c, .int .i64 n, .string s] 23) (w2.heap.size) (by simp))
  have HB' := below_alloc (o := .cells #[.int .i64 k, .int .i64 c, .int .i64 n, .string s] 23) HB; clear HB; have HB := HB'; clear HB'
  have hsz := hok.bd.2.2.2
  have hD := (enc_dcK k c n s hok)
  have HDE : Hid (∀ W, GlE W a0 a1 → Calls Tryd.prog 16 #[.string ⟨(menc k c n s).toArray⟩] W fun e w' => e = .returned (.tuple #[.agg #[.int .i64 k, .int .i64 c, .int .i64 n, .string s], .int .i64 0]) ∧ Below W.heap.size W w') := Lib.hid fun W hw => by
    refine (decode_any _ (by rw [sz, menc_len]; omega) a0 a1 W hw).mono ?_
    rintro e w' ⟨hb, ⟨-, rfl⟩ | ⟨hn, -⟩⟩
    · exact ⟨by rw [hD.2], hb⟩
    · exact absurd hD.1 hn
  have HEN := Lib.hid fun W => encode_ok k c n s W hok
  have HVA : Hid (∀ W, Calls Tryd.prog 20 #[.agg #[.int .i64 k, .int .i64 c, .int .i64 n, .string s]] W fun e w' => e = .returned (.bool true) ∧ Below W.heap.size W w') := Lib.hid fun W => by have := valid_any k c n s W (by omega); rwa [show mokB k c n s.size = true from decide_eq_true hok] at this
  have hTz : (⟨(menc k c n s).toArray⟩ : ByteArray).size = 8 + s.size := by rw [sz, menc_len]
  have HOK := Lib.hid hok; clear hok hD
  generalize (⟨(menc k c n s).toArray⟩ : ByteArray) = T at *
  have Sm := cells4 Hm.out
  obtain ⟨⟨qm0, qm1, qm2, qm3⟩, zm0, zm1, zm2, zm3⟩ := Sm
  have lt_m := blk_lt Hm.out
  go_wp2_with fail
  refine (HEN.out _).mono ?_
  rintro e w3 ⟨rfl, hb⟩
  clear qm0 zm0 qm1 zm1 qm2 zm2 qm3 zm3
  have Hm' := Lib.hid (bblock hb Hm.out); clear Hm; have Hm := Hm'; clear Hm'
  have HB' := below_call HB hb; clear HB hb; have HB := HB'; clear HB'; have hz3 := HB.size
  have lt_m_3 := blk_lt Hm.out
  go_wp2_with fail
  refine (HDE.out _ (hg0.out.below HB)).mono ?_
  rintro e w4 ⟨rfl, hb⟩
  have Hm' := Lib.hid (bblock hb Hm.out); clear Hm; have Hm := Hm'; clear Hm'
  have HB' := below_call HB hb; clear HB hb; have HB := HB'; clear HB'; have hz4 := HB.size
  have lt_m_4 := blk_lt Hm.out
  have Hd := Lib.hid (alloc_new' w4 (.cells #[.int .i64 k, .int .i64 c, .int .i64 n, .string s] 23) (w4.heap.size) (by simp))
  have Hm' := Lib.hid (block_alloc Hm.out (.cells #[.int .i64 k, .int .i64 c, .int .i64 n, .string s] 23)); clear Hm; have Hm := Hm'; clear Hm'
  have HB' := below_alloc (o := .cells #[.int .i64 k, .int .i64 c, .int .i64 n, .string s] 23) HB; clear HB; have HB := HB'; clear HB'
  have heq := eqMsg k c n s k c n s
  rw [decide_eq_true (by exact ⟨rfl, rfl, rfl, rfl⟩)] at heq
  have hln : (T.size : Int) = 8 + (s.size : Int) := by omega
  have hwr : IntKind.i64.wrap (8 + (s.size : Int)) = 8 + (s.size : Int) := IntWalk.i64_in _ (by omega)
  have Sm := cells4 Hm.out
  obtain ⟨⟨qm0, qm1, qm2, qm3⟩, zm0, zm1, zm2, zm3⟩ := Sm
  have lt_m := blk_lt Hm.out
  have Sd := cells4 Hd.out
  obtain ⟨⟨qd0, qd1, qd2, qd3⟩, zd0, zd1, zd2, zd3⟩ := Sd
  have lt_d := blk_lt Hd.out
  go_wp2_with (go_at_call 20; (with_reducible refine (HVA.out _).mono ?_); rintro e w9 ⟨rfl, hb9⟩; have q9 := (cell_of_block (k := 3) (bblock hb9 Hm.out) rfl).1)
  go_ret
  exact ⟨rfl, below_call HB hb9⟩
end Go.Proofs.YtmcfllogcmnnoaaDoor.Ic
