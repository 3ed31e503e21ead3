/-
  The walk of the law DNSQueryResponse.
-/
import Derived.Test.YthdggmigjddneaaDnLaw0
namespace Go.Proofs.Ythdggmigjddneaa.Dn
open Go.RowKit Go.Proofs.Ythdggmigjddneaa.Wire Go.Proofs.Ythdggmigjddneaa.Rw

theorem below_undrew {B : Nat} {a w : World} (h : Below B a.drew w) : Below B a w := ⟨h.os, h.tape, h.output, h.size, h.block⟩
theorem rr_drew {W : World} {lo : Nat} {A : Option Addr} {c : Nat} {l : List Rec} (h : RRow W lo A c l) : RRow W.drew lo A c l := h
set_option maxRecDepth 100000 in
set_option maxHeartbeats 8000000 in
theorem walk35 (x : DR) (d1 : Msg) (Ax : Option Addr) (nx cx : Nat) (S0 S1 P Q : ByteArray) (mv : Bool) (w : World) (hAx : RArg w Ax nx x.recs)
    (HX : Hid (∀ W, RArg W Ax nx x.recs → Calls Try.prog 12 #[.agg #[.int .i64 x.id, .bool x.ans, .int .i64 x.code, .int .i64 x.nm, .bool x.alias, .slice Ax nx cx]] W fun e w' => ∃ A c, e = .returned (.agg #[.int .i64 d1.id, .bool d1.ans, .int .i64 d1.code, .string ⟨d1.nm.toArray⟩, .int .i64 d1.kd, .slice A d1.recs.length c]) ∧ RRow w' W.heap.size A c d1.recs ∧ Below W.heap.size W w'))
    (HE0 : Hid (∀ W, Calls Try.prog 15 #[.agg #[.int .i64 d1.id, .bool false, .int .i64 0, .string ⟨d1.nm.toArray⟩, .int .i64 d1.kd, .slice none 0 0]] W fun e w' => e = .returned (.tuple #[.string S0, .int .i64 0]) ∧ Below W.heap.size W w'))
    (HD0 : Hid (∀ W, Calls Try.prog 21 #[.string S0] W fun e w' => (∃ A c, e = .returned (.tuple #[.agg #[.int .i64 d1.id, .bool false, .int .i64 0, .string ⟨d1.nm.toArray⟩, .int .i64 d1.kd, .slice A 0 c], .int .i64 0]) ∧ RRow w' W.heap.size A c []) ∧ Below W.heap.size W w'))
    (HE1 : Hid (∀ A c lo W, RRow W lo A c [] → Calls Try.prog 15 #[.agg #[.int .i64 d1.id, .bool true, .int .i64 0, .string ⟨d1.nm.toArray⟩, .int .i64 d1.kd, .slice A 0 c]] W fun e w' => e = .returned (.tuple #[.string S1, .int .i64 0]) ∧ Below W.heap.size W w'))
    (HV : Hid (∀ A c W, (RRow W w.heap.size A c d1.recs) → Calls Try.prog 17 #[.agg #[.int .i64 d1.id, .bool false, .int .i64 d1.code, .string ⟨d1.nm.toArray⟩, .int .i64 d1.kd, .slice A d1.recs.length c]] W fun e w' => e = .returned (.bool mv) ∧ Below W.heap.size W w'))
    (hmv : mv = (decide (d1.code = 0) && decide (d1.recs.length = 0)))
    (hs : S0.size = S1.size) (h4 : 8 ≤ S0.size) (hm : S0.size ≤ 2000) (hp0 : S0.extract 0 2 = P) (hp1 : S1.extract 0 2 = P) (hq0 : S0.extract 3 S0.size = Q) (hq1 : S1.extract 3 S1.size = Q) (hi0 : ∀ h : 2 < S0.size, S0[2]'h = 0) (hi1 : ∀ h : 2 < S1.size, S1[2]'h = 1) (hlr : d1.recs.length ≤ 8) :
    Calls Try.prog 7 #[.agg #[.int .i64 x.id, .bool x.ans, .int .i64 x.code, .int .i64 x.nm, .bool x.alias, .slice Ax nx cx]] w fun e w' => e = .returned (.bool true) ∧ Below w.heap.size w w' := by
  have HAx := Lib.hid hAx; clear hAx
  have hL : ((S0.size : Int) == (S1.size : Int)) = true := by rw [hs]; simp
  have s1 : (3 : Int) < (S0.size : Int) := by omega
  have s2 : (2 : Int) ≤ (S0.size : Int) := by omega
  have s3 : (2 : Int) ≤ (S1.size : Int) := by omega
  have s4 : (3 : Int) ≤ (S0.size : Int) := by omega
  have s5 : (3 : Int) ≤ (S1.size : Int) := by omega
  have s6 : (2 : Int) < (S0.size : Int) := by omega
  have s7 : (2 : Int) < (S1.size : Int) := by omega
  have HZ1 : Hid (w.heap.size ≤ w.heap.size) := Lib.hid (Nat.le_refl _)
  have HB := Below.refl w.heap.size w
  have Hx := Lib.hid (alloc_new' w (.cells #[.int .i64 x.id, .bool x.ans, .int .i64 x.code, .int .i64 x.nm, .bool x.alias, .slice Ax nx cx] 24) (w.heap.size) (by simp))
  have HAx' := Lib.hid (HAx.out.alloc (.cells #[.int .i64 x.id, .bool x.ans, .int .i64 x.code, .int .i64 x.nm, .bool x.alias, .slice Ax nx cx] 24)); clear HAx; have HAx := HAx'; clear HAx'
  have HB' := below_alloc (o := .cells #[.int .i64 x.id, .bool x.ans, .int .i64 x.code, .int .i64 x.nm, .bool x.alias, .slice Ax nx cx] 24) HB; clear HB; have HB := HB'; clear HB'
  go_enter Try.func7, Try.ntmps7
  go_wp2_with fail
  refine (examples_any _).mono ?_
  rintro e w1 ⟨rfl, hb⟩
  have Hx' := Lib.hid (bblock hb Hx.out); clear Hx; have Hx := Hx'; clear Hx'
  have HAx' := Lib.hid (HAx.out.below hb); clear HAx; have HAx := HAx'; clear HAx'
  have HB' := below_call HB hb; clear HB hb; have HB := HB'; clear HB'; have hz1 := HB.size
  have lt_x_1 := blk_lt Hx.out
  have Sx := cells6 Hx.out
  obtain ⟨⟨qx0, qx1, qx2, qx3, qx4, qx5⟩, zx0, zx1, zx2, zx3, zx4, zx5⟩ := Sx
  have lt_x := blk_lt Hx.out
  go_wp2_with fail
  refine (HX.out _ HAx.out).mono ?_
  rintro e w2 ⟨A1, c1, rfl, hr1, hb⟩
  clear qx0 zx0 qx1 zx1 qx2 zx2 qx3 zx3 qx4 zx4 qx5 zx5
  have Hx' := Lib.hid (bblock hb Hx.out); clear Hx; have Hx := Hx'; clear Hx'
  have HAx' := Lib.hid (HAx.out.below hb); clear HAx; have HAx := HAx'; clear HAx'
  have HB' := below_call HB hb; clear HB hb; have HB := HB'; clear HB'; have hz2 := HB.size
  have lt_x_2 := blk_lt Hx.out
  have Hr1 := Lib.hid hr1; clear hr1; have Hlo1 := Lib.hid hz1
  have Hd := Lib.hid (alloc_new' w2 (.cells #[.int .i64 d1.id, .bool d1.ans, .int .i64 d1.code, .string ⟨d1.nm.toArray⟩, .int .i64 d1.kd, .slice A1 d1.recs.length c1] 27) (w2.heap.size) (by simp))
  have Hx' := Lib.hid (block_alloc Hx.out (.cells #[.int .i64 d1.id, .bool d1.ans, .int .i64 d1.code, .string ⟨d1.nm.toArray⟩, .int .i64 d1.kd, .slice A1 d1.recs.length c1] 27)); clear Hx; have Hx := Hx'; clear Hx'
  have HAx' := Lib.hid (HAx.out.alloc (.cells #[.int .i64 d1.id, .bool d1.ans, .int .i64 d1.code, .string ⟨d1.nm.toArray⟩, .int .i64 d1.kd, .slice A1 d1.recs.length c1] 27)); clear HAx; have HAx := HAx'; clear HAx'
  have Hr1' := Lib.hid (Hr1.out.alloc (.cells #[.int .i64 d1.id, .bool d1.ans, .int .i64 d1.code, .string ⟨d1.nm.toArray⟩, .int .i64 d1.kd, .slice A1 d1.recs.length c1] 27)); clear Hr1; have Hr1 := Hr1'; clear Hr1'
  have HB' := below_alloc (o := .cells #[.int .i64 d1.id, .bool d1.ans, .int .i64 d1.code, .string ⟨d1.nm.toArray⟩, .int .i64 d1.kd, .slice A1 d1.recs.length c1] 27) HB; clear HB; have HB := HB'; clear HB'
  have Hq := Lib.hid (alloc_new' (w2.alloc (.cells #[.int .i64 d1.id, .bool d1.ans, .int .i64 d1.code, .string ⟨d1.nm.toArray⟩, .int .i64 d1.kd, .slice A1 d1.recs.length c1] 27)) (.cells #[.int .i64 d1.id, .bool false, .int .i64 d1.code, .string ⟨d1.nm.toArray⟩, .int .i64 d1.kd, (.slice A1 d1.recs.length c1)] 27) (w2.heap.size + 1) (by simp))
  have Hx' := Lib.hid (block_alloc Hx.out (.cells #[.int .i64 d1.id, .bool false, .int .i64 d1.code, .string ⟨d1.nm.toArray⟩, .int .i64 d1.kd, (.slice A1 d1.recs.length c1)] 27)); clear Hx; have Hx := Hx'; clear Hx'
  have Hd' := Lib.hid (block_alloc Hd.out (.cells #[.int .i64 d1.id, .bool false, .int .i64 d1.code, .string ⟨d1.nm.toArray⟩, .int .i64 d1.kd, (.slice A1 d1.recs.length c1)] 27)); clear Hd; have Hd := Hd'; clear Hd'
  have HAx' := Lib.hid (HAx.out.alloc (.cells #[.int .i64 d1.id, .bool false, .int .i64 d1.code, .string ⟨d1.nm.toArray⟩, .int .i64 d1.kd, (.slice A1 d1.recs.length c1)] 27)); clear HAx; have HAx := HAx'; clear HAx'
  have Hr1' := Lib.hid (Hr1.out.alloc (.cells #[.int .i64 d1.id, .bool false, .int .i64 d1.code, .string ⟨d1.nm.toArray⟩, .int .i64 d1.kd, (.slice A1 d1.recs.length c1)] 27)); clear Hr1; have Hr1 := Hr1'; clear Hr1'
  have HB' := below_alloc (o := .cells #[.int .i64 d1.id, .bool false, .int .i64 d1.code, .string ⟨d1.nm.toArray⟩, .int .i64 d1.kd, (.slice A1 d1.recs.length c1)] 27) HB; clear HB; have HB := HB'; clear HB'
  have Hb := Lib.hid (alloc_new' ((w2.alloc (.cells #[.int .i64 d1.id, .bool d1.ans, .int .i64 d1.code, .string ⟨d1.nm.toArray⟩, .int .i64 d1.kd, .slice A1 d1.recs.length c1] 27)).alloc (.cells #[.int .i64 d1.id, .bool false, .int .i64 d1.code, .string ⟨d1.nm.toArray⟩, .int .i64 d1.kd, (.slice A1 d1.recs.length c1)] 27)) (.cells #[.int .i64 d1.id, .bool false, .int .i64 0, .string ⟨d1.nm.toArray⟩, .int .i64 d1.kd, (.slice none 0 0)] 27) (w2.heap.size + 1 + 1) (by simp))
  have Hx' := Lib.hid (block_alloc Hx.out (.cells #[.int .i64 d1.id, .bool false, .int .i64 0, .string ⟨d1.nm.toArray⟩, .int .i64 d1.kd, (.slice none 0 0)] 27)); clear Hx; have Hx := Hx'; clear Hx'
  have Hd' := Lib.hid (block_alloc Hd.out (.cells #[.int .i64 d1.id, .bool false, .int .i64 0, .string ⟨d1.nm.toArray⟩, .int .i64 d1.kd, (.slice none 0 0)] 27)); clear Hd; have Hd := Hd'; clear Hd'
  have Hq' := Lib.hid (block_alloc Hq.out (.cells #[.int .i64 d1.id, .bool false, .int .i64 0, .string ⟨d1.nm.toArray⟩, .int .i64 d1.kd, (.slice none 0 0)] 27)); clear Hq; have Hq := Hq'; clear Hq'
  have HAx' := Lib.hid (HAx.out.alloc (.cells #[.int .i64 d1.id, .bool false, .int .i64 0, .string ⟨d1.nm.toArray⟩, .int .i64 d1.kd, (.slice none 0 0)] 27)); clear HAx; have HAx := HAx'; clear HAx'
  have Hr1' := Lib.hid (Hr1.out.alloc (.cells #[.int .i64 d1.id, .bool false, .int .i64 0, .string ⟨d1.nm.toArray⟩, .int .i64 d1.kd, (.slice none 0 0)] 27)); clear Hr1; have Hr1 := Hr1'; clear Hr1'
  have HB' := below_alloc (o := .cells #[.int .i64 d1.id, .bool false, .int .i64 0, .string ⟨d1.nm.toArray⟩, .int .i64 d1.kd, (.slice none 0 0)] 27) HB; clear HB; have HB := HB'; clear HB'
  have Sb := cells6 Hb.out
  obtain ⟨⟨qb0, qb1, qb2, qb3, qb4, qb5⟩, zb0, zb1, zb2, zb3, zb4, zb5⟩ := Sb
  have lt_b := blk_lt Hb.out
  go_wp2_with fail
  refine (HE0.out _).mono ?_
  rintro e w3 ⟨rfl, hb⟩
  clear qb0 zb0 qb1 zb1 qb2 zb2 qb3 zb3 qb4 zb4 qb5 zb5
  have Hx' := Lib.hid (bblock hb Hx.out); clear Hx; have Hx := Hx'; clear Hx'
  have Hd' := Lib.hid (bblock hb Hd.out); clear Hd; have Hd := Hd'; clear Hd'
  have Hq' := Lib.hid (bblock hb Hq.out); clear Hq; have Hq := Hq'; clear Hq'
  have Hb' := Lib.hid (bblock hb Hb.out); clear Hb; have Hb := Hb'; clear Hb'
  have HAx' := Lib.hid (HAx.out.below hb); clear HAx; have HAx := HAx'; clear HAx'
  have Hr1' := Lib.hid (Hr1.out.below hb); clear Hr1; have Hr1 := Hr1'; clear Hr1'
  have HB' := below_call HB hb; clear HB hb; have HB := HB'; clear HB'; have hz3 := HB.size
  have lt_x_3 := blk_lt Hx.out
  have lt_d_3 := blk_lt Hd.out
  have lt_q_3 := blk_lt Hq.out
  have lt_b_3 := blk_lt Hb.out
  go_wp2_with fail
  refine (HD0.out _).mono ?_
  rintro e w4 ⟨⟨A3, c3, rfl, hr3⟩, hb⟩
  have Hx' := Lib.hid (bblock hb Hx.out); clear Hx; have Hx := Hx'; clear Hx'
  have Hd' := Lib.hid (bblock hb Hd.out); clear Hd; have Hd := Hd'; clear Hd'
  have Hq' := Lib.hid (bblock hb Hq.out); clear Hq; have Hq := Hq'; clear Hq'
  have Hb' := Lib.hid (bblock hb Hb.out); clear Hb; have Hb := Hb'; clear Hb'
  have HAx' := Lib.hid (HAx.out.below hb); clear HAx; have HAx := HAx'; clear HAx'
  have Hr1' := Lib.hid (Hr1.out.below hb); clear Hr1; have Hr1 := Hr1'; clear Hr1'
  have HB' := below_call HB hb; clear HB hb; have HB := HB'; clear HB'; have hz4 := HB.size
  have lt_x_4 := blk_lt Hx.out
  have lt_d_4 := blk_lt Hd.out
  have lt_q_4 := blk_lt Hq.out
  have lt_b_4 := blk_lt Hb.out
  have Hr3 := Lib.hid hr3; clear hr3
  have Hr := Lib.hid (alloc_new' w4 (.cells #[.int .i64 d1.id, .bool true, .int .i64 0, .string ⟨d1.nm.toArray⟩, .int .i64 d1.kd, (.slice A3 0 c3)] 27) (w4.heap.size) (by simp))
  have Hx' := Lib.hid (block_alloc Hx.out (.cells #[.int .i64 d1.id, .bool true, .int .i64 0, .string ⟨d1.nm.toArray⟩, .int .i64 d1.kd, (.slice A3 0 c3)] 27)); clear Hx; have Hx := Hx'; clear Hx'
  have Hd' := Lib.hid (block_alloc Hd.out (.cells #[.int .i64 d1.id, .bool true, .int .i64 0, .string ⟨d1.nm.toArray⟩, .int .i64 d1.kd, (.slice A3 0 c3)] 27)); clear Hd; have Hd := Hd'; clear Hd'
  have Hq' := Lib.hid (block_alloc Hq.out (.cells #[.int .i64 d1.id, .bool true, .int .i64 0, .string ⟨d1.nm.toArray⟩, .int .i64 d1.kd, (.slice A3 0 c3)] 27)); clear Hq; have Hq := Hq'; clear Hq'
  have Hb' := Lib.hid (block_alloc Hb.out (.cells #[.int .i64 d1.id, .bool true, .int .i64 0, .string ⟨d1.nm.toArray⟩, .int .i64 d1.kd, (.slice A3 0 c3)] 27)); clear Hb; have Hb := Hb'; clear Hb'
  have HAx' := Lib.hid (HAx.out.alloc (.cells #[.int .i64 d1.id, .bool true, .int .i64 0, .string ⟨d1.nm.toArray⟩, .int .i64 d1.kd, (.slice A3 0 c3)] 27)); clear HAx; have HAx := HAx'; clear HAx'
  have Hr1' := Lib.hid (Hr1.out.alloc (.cells #[.int .i64 d1.id, .bool true, .int .i64 0, .string ⟨d1.nm.toArray⟩, .int .i64 d1.kd, (.slice A3 0 c3)] 27)); clear Hr1; have Hr1 := Hr1'; clear Hr1'
  have Hr3' := Lib.hid (Hr3.out.alloc (.cells #[.int .i64 d1.id, .bool true, .int .i64 0, .string ⟨d1.nm.toArray⟩, .int .i64 d1.kd, (.slice A3 0 c3)] 27)); clear Hr3; have Hr3 := Hr3'; clear Hr3'
  have HB' := below_alloc (o := .cells #[.int .i64 d1.id, .bool true, .int .i64 0, .string ⟨d1.nm.toArray⟩, .int .i64 d1.kd, (.slice A3 0 c3)] 27) HB; clear HB; have HB := HB'; clear HB'
  have Sr := cells6 Hr.out
  obtain ⟨⟨qr0, qr1, qr2, qr3, qr4, qr5⟩, zr0, zr1, zr2, zr3, zr4, zr5⟩ := Sr
  have lt_r := blk_lt Hr.out
  go_wp2_with fail
  refine (HE1.out _ _ _ _ Hr3.out).mono ?_
  rintro e w5 ⟨rfl, hb⟩
  clear qr0 zr0 qr1 zr1 qr2 zr2 qr3 zr3 qr4 zr4 qr5 zr5
  have Hx' := Lib.hid (bblock hb Hx.out); clear Hx; have Hx := Hx'; clear Hx'
  have Hd' := Lib.hid (bblock hb Hd.out); clear Hd; have Hd := Hd'; clear Hd'
  have Hq' := Lib.hid (bblock hb Hq.out); clear Hq; have Hq := Hq'; clear Hq'
  have Hb' := Lib.hid (bblock hb Hb.out); clear Hb; have Hb := Hb'; clear Hb'
  have Hr' := Lib.hid (bblock hb Hr.out); clear Hr; have Hr := Hr'; clear Hr'
  have HAx' := Lib.hid (HAx.out.below hb); clear HAx; have HAx := HAx'; clear HAx'
  have Hr1' := Lib.hid (Hr1.out.below hb); clear Hr1; have Hr1 := Hr1'; clear Hr1'
  have Hr3' := Lib.hid (Hr3.out.below hb); clear Hr3; have Hr3 := Hr3'; clear Hr3'
  have HB' := below_call HB hb; clear HB hb; have HB := HB'; clear HB'; have hz5 := HB.size
  have lt_x_5 := blk_lt Hx.out
  have lt_d_5 := blk_lt Hd.out
  have lt_q_5 := blk_lt Hq.out
  have lt_b_5 := blk_lt Hb.out
  have lt_r_5 := blk_lt Hr.out
  go_upto_region 14 with fail
  clear HX HE0 HD0 HE1 hs h4 hm hlr HAx Hr3 Hx Hb Hr lt_x lt_r lt_b
  by_cases hc : d1.code = 0
  · have hc' : (d1.code == 0) = true := by rw [beq_iff_eq]; exact hc
    by_cases hl : d1.recs.length = 0
    · have hl' : ((d1.recs.length : Int) == 0) = true := by rw [beq_iff_eq]; omega
      rw [decide_eq_true hc, decide_eq_true hl] at hmv
      subst hmv; clear hc hl
      refine wp_region_held_drew (S := (fun w' => w'.cell? ⟨w2.heap.size, 2, none⟩ = some (.int .i64 d1.code) ∧ w'.cell? ⟨w2.heap.size, 5, none⟩ = some (.slice A1 d1.recs.length c1) ∧ w'.cell? ⟨w2.heap.size + 1, 0, none⟩ = some (.int .i64 d1.id) ∧ w'.cell? ⟨w2.heap.size + 1, 1, none⟩ = some (.bool false) ∧ w'.cell? ⟨w2.heap.size + 1, 2, none⟩ = some (.int .i64 d1.code) ∧ w'.cell? ⟨w2.heap.size + 1, 3, none⟩ = some (.string ⟨d1.nm.toArray⟩) ∧ w'.cell? ⟨w2.heap.size + 1, 4, none⟩ = some (.int .i64 d1.kd) ∧ w'.cell? ⟨w2.heap.size + 1, 5, none⟩ = some ((.slice A1 d1.recs.length c1)))) (by kernel_rfl) (⟨(cell_of_block (k := 2) Hd.out rfl).1, (cell_of_block (k := 5) Hd.out rfl).1, (cell_of_block (k := 0) Hq.out rfl).1, (cell_of_block (k := 1) Hq.out rfl).1, (cell_of_block (k := 2) Hq.out rfl).1, (cell_of_block (k := 3) Hq.out rfl).1, (cell_of_block (k := 4) Hq.out rfl).1, (cell_of_block (k := 5) Hq.out rfl).1⟩) ?_
      intro hS
      refine wpAnyH_take (i := 0) (oi := ⟨some 39, _, _, _, _, _⟩) (v := ?vt1x0) rfl (by kernel_rfl) (by kernel_rfl) (by kernel_rfl) (fun _ _ _ h => h) (Or.inl ⟨by rfl, ?hyt1x0⟩) (by exact hS) ?ret1x0
      case hyt1x0 => (intro ww hSw; (try dsimp only at hSw); go_simp; first | done | with_reducible rfl)
      try simp only [Act.put, List.setIfInBounds_toArray, List.set_cons_zero, List.set_cons_succ]
      refine wpAnyH_take (i := 1) (oi := ⟨some 40, _, _, _, _, _⟩) (v := ?vt2x1) rfl (by kernel_rfl) (by kernel_rfl) (by kernel_rfl) (fun _ _ _ h => h) (Or.inl ⟨by rfl, ?hyt2x1⟩) (by exact hS) ?ret2x1
      case hyt2x1 => (intro ww hSw; (try dsimp only at hSw); go_simp; first | done | with_reducible rfl)
      try simp only [Act.put, List.setIfInBounds_toArray, List.set_cons_zero, List.set_cons_succ]
      refine wpAnyH_take (i := 2) (oi := ⟨some 41, _, _, _, _, _⟩) (v := ?vt3x2) rfl (by kernel_rfl) (by kernel_rfl) (by kernel_rfl) (fun _ _ _ h => h) (Or.inl ⟨by rfl, ?hyt3x2⟩) (by exact hS) ?ret3x2
      case hyt3x2 => (intro ww hSw; (try dsimp only at hSw); go_simp; first | done | with_reducible rfl)
      try simp only [Act.put, List.setIfInBounds_toArray, List.set_cons_zero, List.set_cons_succ]
      refine wpAnyH_take (i := 4) (oi := ⟨some 43, _, _, _, _, _⟩) (v := ?vt4x4) rfl (by kernel_rfl) (by kernel_rfl) (by kernel_rfl) (fun _ _ _ h => h) (Or.inl ⟨by rfl, ?hyt4x4⟩) (by exact hS) ?ret4x4
      case hyt4x4 => (intro ww hSw; (try dsimp only at hSw); go_simp; first | done | with_reducible rfl)
      try simp only [Act.put, List.setIfInBounds_toArray, List.set_cons_zero, List.set_cons_succ]
      refine wpAnyH_take (i := 5) (oi := ⟨some 44, _, _, _, _, _⟩) (v := ?vt5x5) rfl (by kernel_rfl) (by kernel_rfl) (by kernel_rfl) (fun _ _ _ h => h) (Or.inl ⟨by rfl, ?hyt5x5⟩) (by exact hS) ?ret5x5
      case hyt5x5 => (intro ww hSw; (try dsimp only at hSw); go_simp; first | done | with_reducible rfl)
      try simp only [Act.put, List.setIfInBounds_toArray, List.set_cons_zero, List.set_cons_succ]
      refine wpAnyH_take (i := 6) (oi := ⟨some 45, _, _, _, _, _⟩) (v := ?vt6x6) rfl (by kernel_rfl) (by kernel_rfl) (by kernel_rfl) (fun _ _ _ h => h) (Or.inl ⟨by rfl, ?hyt6x6⟩) (by exact hS) ?ret6x6
      case hyt6x6 => (intro ww hSw; (try dsimp only at hSw); go_simp; first | done | with_reducible rfl)
      try simp only [Act.put, List.setIfInBounds_toArray, List.set_cons_zero, List.set_cons_succ]
      refine wpAnyH_ready (rs := [3]) (by kernel_rfl) (by simp) ?_
      refine AllReadyH.cons (o := ⟨some 42, _, _, _, _, _⟩) rfl (fun K7 hK7 => ?_) AllReadyH.nil
      go_simp
      refine (HV.out _ _ _ (by first | exact SRow.mono Hr1.out Hlo1.out | exact rr_drew (SRow.mono Hr1.out Hlo1.out))).mono ?_
      rintro e w9 ⟨rfl, hb9⟩
      dsimp only
      have HB9 := below_call HB (below_undrew hb9)
      have Hd9 := Lib.hid (bblock hb9 Hd.out); have Hq9 := Lib.hid (bblock hb9 Hq.out); clear Hd Hq; have Hd := Hd9; have Hq := Hq9; clear Hd9 Hq9 hb9
      refine hK7.out _ _ (⟨(cell_of_block (k := 2) Hd.out rfl).1, (cell_of_block (k := 5) Hd.out rfl).1, (cell_of_block (k := 0) Hq.out rfl).1, (cell_of_block (k := 1) Hq.out rfl).1, (cell_of_block (k := 2) Hq.out rfl).1, (cell_of_block (k := 3) Hq.out rfl).1, (cell_of_block (k := 4) Hq.out rfl).1, (cell_of_block (k := 5) Hq.out rfl).1⟩) (fun h7 => ?_)
      try simp only [Act.put, List.setIfInBounds_toArray, List.set_cons_zero, List.set_cons_succ]
      have hS9 := h7
      refine wpAnyH_take (i := 7) (oi := ⟨some 46, _, _, _, _, _⟩) (v := ?vt8x7) rfl (by kernel_rfl) (by kernel_rfl) (by kernel_rfl) (fun _ _ _ h => h) (Or.inl ⟨by rfl, ?hyt8x7⟩) (by exact ⟨(cell_of_block (k := 2) Hd.out rfl).1, (cell_of_block (k := 5) Hd.out rfl).1, (cell_of_block (k := 0) Hq.out rfl).1, (cell_of_block (k := 1) Hq.out rfl).1, (cell_of_block (k := 2) Hq.out rfl).1, (cell_of_block (k := 3) Hq.out rfl).1, (cell_of_block (k := 4) Hq.out rfl).1, (cell_of_block (k := 5) Hq.out rfl).1⟩) ?ret8x7
      case hyt8x7 => (intro ww hSw; (try dsimp only at hSw); go_simp; first | done | with_reducible rfl)
      try simp only [Act.put, List.setIfInBounds_toArray, List.set_cons_zero, List.set_cons_succ]
      refine wpAnyH_take (i := 8) (oi := ⟨some 47, _, _, _, _, _⟩) (v := ?vt9x8) rfl (by kernel_rfl) (by kernel_rfl) (by kernel_rfl) (fun _ _ _ h => h) (Or.inl ⟨by rfl, ?hyt9x8⟩) (by exact ⟨(cell_of_block (k := 2) Hd.out rfl).1, (cell_of_block (k := 5) Hd.out rfl).1, (cell_of_block (k := 0) Hq.out rfl).1, (cell_of_block (k := 1) Hq.out rfl).1, (cell_of_block (k := 2) Hq.out rfl).1, (cell_of_block (k := 3) Hq.out rfl).1, (cell_of_block (k := 4) Hq.out rfl).1, (cell_of_block (k := 5) Hq.out rfl).1⟩) ?ret9x8
      case hyt9x8 => (intro ww hSw; (try dsimp only at hSw); go_simp; first | done | with_reducible rfl)
      try simp only [Act.put, List.setIfInBounds_toArray, List.set_cons_zero, List.set_cons_succ]
      refine wpAnyH_take (i := 9) (oi := ⟨some 48, _, _, _, _, _⟩) (v := ?vt10x9) rfl (by kernel_rfl) (by kernel_rfl) (by kernel_rfl) (fun _ _ _ h => h) (Or.inl ⟨by rfl, ?hyt10x9⟩) (by exact ⟨(cell_of_block (k := 2) Hd.out rfl).1, (cell_of_block (k := 5) Hd.out rfl).1, (cell_of_block (k := 0) Hq.out rfl).1, (cell_of_block (k := 1) Hq.out rfl).1, (cell_of_block (k := 2) Hq.out rfl).1, (cell_of_block (k := 3) Hq.out rfl).1, (cell_of_block (k := 4) Hq.out rfl).1, (cell_of_block (k := 5) Hq.out rfl).1⟩) ?ret10x9
      case hyt10x9 => (intro ww hSw; (try dsimp only at hSw); go_simp; first | done | with_reducible rfl)
      try simp only [Act.put, List.setIfInBounds_toArray, List.set_cons_zero, List.set_cons_succ]
      refine wpAnyH_take (i := 10) (oi := ⟨some 49, _, _, _, _, _⟩) (v := ?vt11x10) rfl (by kernel_rfl) (by kernel_rfl) (by kernel_rfl) (fun _ _ _ h => h) (Or.inl ⟨by rfl, ?hyt11x10⟩) (by exact ⟨(cell_of_block (k := 2) Hd.out rfl).1, (cell_of_block (k := 5) Hd.out rfl).1, (cell_of_block (k := 0) Hq.out rfl).1, (cell_of_block (k := 1) Hq.out rfl).1, (cell_of_block (k := 2) Hq.out rfl).1, (cell_of_block (k := 3) Hq.out rfl).1, (cell_of_block (k := 4) Hq.out rfl).1, (cell_of_block (k := 5) Hq.out rfl).1⟩) ?ret11x10
      case hyt11x10 => (intro ww hSw; (try dsimp only at hSw); go_simp; first | done | with_reducible rfl)
      try simp only [Act.put, List.setIfInBounds_toArray, List.set_cons_zero, List.set_cons_succ]
      refine wpAnyH_take (i := 11) (oi := ⟨some 50, _, _, _, _, _⟩) (v := ?vt12x11) rfl (by kernel_rfl) (by kernel_rfl) (by kernel_rfl) (fun _ _ _ h => h) (Or.inl ⟨by rfl, ?hyt12x11⟩) (by exact ⟨(cell_of_block (k := 2) Hd.out rfl).1, (cell_of_block (k := 5) Hd.out rfl).1, (cell_of_block (k := 0) Hq.out rfl).1, (cell_of_block (k := 1) Hq.out rfl).1, (cell_of_block (k := 2) Hq.out rfl).1, (cell_of_block (k := 3) Hq.out rfl).1, (cell_of_block (k := 4) Hq.out rfl).1, (cell_of_block (k := 5) Hq.out rfl).1⟩) ?ret12x11
      case hyt12x11 => (intro ww hSw; (try dsimp only at hSw); go_simp; first | done | with_reducible rfl)
      try simp only [Act.put, List.setIfInBounds_toArray, List.set_cons_zero, List.set_cons_succ]
      refine wpAnyH_take (i := 12) (oi := ⟨some 51, _, _, _, _, _⟩) (v := ?vt13x12) rfl (by kernel_rfl) (by kernel_rfl) (by kernel_rfl) (fun _ _ _ h => h) (Or.inl ⟨by rfl, ?hyt13x12⟩) (by exact ⟨(cell_of_block (k := 2) Hd.out rfl).1, (cell_of_block (k := 5) Hd.out rfl).1, (cell_of_block (k := 0) Hq.out rfl).1, (cell_of_block (k := 1) Hq.out rfl).1, (cell_of_block (k := 2) Hq.out rfl).1, (cell_of_block (k := 3) Hq.out rfl).1, (cell_of_block (k := 4) Hq.out rfl).1, (cell_of_block (k := 5) Hq.out rfl).1⟩) ?ret13x12
      case hyt13x12 => (intro ww hSw; (try dsimp only at hSw); go_simp; first | done | with_reducible rfl)
      try simp only [Act.put, List.setIfInBounds_toArray, List.set_cons_zero, List.set_cons_succ]
      refine wpAnyH_take (i := 13) (oi := ⟨some 52, _, _, _, _, _⟩) (v := ?vt14x13) rfl (by kernel_rfl) (by kernel_rfl) (by kernel_rfl) (fun _ _ _ h => h) (Or.inl ⟨by rfl, ?hyt14x13⟩) (by exact ⟨(cell_of_block (k := 2) Hd.out rfl).1, (cell_of_block (k := 5) Hd.out rfl).1, (cell_of_block (k := 0) Hq.out rfl).1, (cell_of_block (k := 1) Hq.out rfl).1, (cell_of_block (k := 2) Hq.out rfl).1, (cell_of_block (k := 3) Hq.out rfl).1, (cell_of_block (k := 4) Hq.out rfl).1, (cell_of_block (k := 5) Hq.out rfl).1⟩) ?ret14x13
      case hyt14x13 => (intro ww hSw; (try dsimp only at hSw); go_simp; first | done | with_reducible rfl)
      try simp only [Act.put, List.setIfInBounds_toArray, List.set_cons_zero, List.set_cons_succ]
      refine wpAnyH_take (i := 14) (oi := ⟨some 53, _, _, _, _, _⟩) (v := ?vt15x14) rfl (by kernel_rfl) (by kernel_rfl) (by kernel_rfl) (fun _ _ _ h => h) (Or.inl ⟨by rfl, ?hyt15x14⟩) (by exact ⟨(cell_of_block (k := 2) Hd.out rfl).1, (cell_of_block (k := 5) Hd.out rfl).1, (cell_of_block (k := 0) Hq.out rfl).1, (cell_of_block (k := 1) Hq.out rfl).1, (cell_of_block (k := 2) Hq.out rfl).1, (cell_of_block (k := 3) Hq.out rfl).1, (cell_of_block (k := 4) Hq.out rfl).1, (cell_of_block (k := 5) Hq.out rfl).1⟩) ?ret15x14
      case hyt15x14 => (intro ww hSw; (try dsimp only at hSw); go_simp; first | done | with_reducible rfl)
      try simp only [Act.put, List.setIfInBounds_toArray, List.set_cons_zero, List.set_cons_succ]
      refine wpAnyH_take (i := 15) (oi := ⟨some 54, _, _, _, _, _⟩) (v := ?vt16x15) rfl (by kernel_rfl) (by kernel_rfl) (by kernel_rfl) (fun _ _ _ h => h) (Or.inl ⟨by rfl, ?hyt16x15⟩) (by exact ⟨(cell_of_block (k := 2) Hd.out rfl).1, (cell_of_block (k := 5) Hd.out rfl).1, (cell_of_block (k := 0) Hq.out rfl).1, (cell_of_block (k := 1) Hq.out rfl).1, (cell_of_block (k := 2) Hq.out rfl).1, (cell_of_block (k := 3) Hq.out rfl).1, (cell_of_block (k := 4) Hq.out rfl).1, (cell_of_block (k := 5) Hq.out rfl).1⟩) ?ret16x15
      case hyt16x15 => (intro ww hSw; (try dsimp only at hSw); go_simp; first | done | with_reducible rfl)
      try simp only [Act.put, List.setIfInBounds_toArray, List.set_cons_zero, List.set_cons_succ]
      refine wpAnyH_take (i := 16) (oi := ⟨some 55, _, _, _, _, _⟩) (v := ?vt17x16) rfl (by kernel_rfl) (by kernel_rfl) (by kernel_rfl) (fun _ _ _ h => h) (Or.inl ⟨by rfl, ?hyt17x16⟩) (by exact ⟨(cell_of_block (k := 2) Hd.out rfl).1, (cell_of_block (k := 5) Hd.out rfl).1, (cell_of_block (k := 0) Hq.out rfl).1, (cell_of_block (k := 1) Hq.out rfl).1, (cell_of_block (k := 2) Hq.out rfl).1, (cell_of_block (k := 3) Hq.out rfl).1, (cell_of_block (k := 4) Hq.out rfl).1, (cell_of_block (k := 5) Hq.out rfl).1⟩) ?ret17x16
      case hyt17x16 => (intro ww hSw; (try dsimp only at hSw); go_simp; first | done | with_reducible rfl)
      try simp only [Act.put, List.setIfInBounds_toArray, List.set_cons_zero, List.set_cons_succ]
      refine wpAnyH_take (i := 17) (oi := ⟨some 56, _, _, _, _, _⟩) (v := ?vt18x17) rfl (by kernel_rfl) (by kernel_rfl) (by kernel_rfl) (fun _ _ _ h => h) (Or.inl ⟨by rfl, ?hyt18x17⟩) (by exact ⟨(cell_of_block (k := 2) Hd.out rfl).1, (cell_of_block (k := 5) Hd.out rfl).1, (cell_of_block (k := 0) Hq.out rfl).1, (cell_of_block (k := 1) Hq.out rfl).1, (cell_of_block (k := 2) Hq.out rfl).1, (cell_of_block (k := 3) Hq.out rfl).1, (cell_of_block (k := 4) Hq.out rfl).1, (cell_of_block (k := 5) Hq.out rfl).1⟩) ?ret18x17
      case hyt18x17 => (intro ww hSw; (try dsimp only at hSw); go_simp; first | done | with_reducible rfl)
      try simp only [Act.put, List.setIfInBounds_toArray, List.set_cons_zero, List.set_cons_succ]
      refine wpAnyH_take (i := 18) (oi := ⟨some 57, _, _, _, _, _⟩) (v := ?vt19x18) rfl (by kernel_rfl) (by kernel_rfl) (by kernel_rfl) (fun _ _ _ h => h) (Or.inl ⟨by rfl, ?hyt19x18⟩) (by exact ⟨(cell_of_block (k := 2) Hd.out rfl).1, (cell_of_block (k := 5) Hd.out rfl).1, (cell_of_block (k := 0) Hq.out rfl).1, (cell_of_block (k := 1) Hq.out rfl).1, (cell_of_block (k := 2) Hq.out rfl).1, (cell_of_block (k := 3) Hq.out rfl).1, (cell_of_block (k := 4) Hq.out rfl).1, (cell_of_block (k := 5) Hq.out rfl).1⟩) ?ret19x18
      case hyt19x18 => (intro ww hSw; (try dsimp only at hSw); go_simp; first | done | with_reducible rfl)
      try simp only [Act.put, List.setIfInBounds_toArray, List.set_cons_zero, List.set_cons_succ]
      refine wpAnyH_take (i := 19) (oi := ⟨some 58, _, _, _, _, _⟩) (v := ?vt20x19) rfl (by kernel_rfl) (by kernel_rfl) (by kernel_rfl) (fun _ _ _ h => h) (Or.inl ⟨by rfl, ?hyt20x19⟩) (by exact ⟨(cell_of_block (k := 2) Hd.out rfl).1, (cell_of_block (k := 5) Hd.out rfl).1, (cell_of_block (k := 0) Hq.out rfl).1, (cell_of_block (k := 1) Hq.out rfl).1, (cell_of_block (k := 2) Hq.out rfl).1, (cell_of_block (k := 3) Hq.out rfl).1, (cell_of_block (k := 4) Hq.out rfl).1, (cell_of_block (k := 5) Hq.out rfl).1⟩) ?ret20x19
      case hyt20x19 => (intro ww hSw; (try dsimp only at hSw); go_simp; first | done | with_reducible rfl)
      try simp only [Act.put, List.setIfInBounds_toArray, List.set_cons_zero, List.set_cons_succ]
      refine wpAnyH_take (i := 20) (oi := ⟨some 59, _, _, _, _, _⟩) (v := ?vt21x20) rfl (by kernel_rfl) (by kernel_rfl) (by kernel_rfl) (fun _ _ _ h => h) (Or.inl ⟨by rfl, ?hyt21x20⟩) (by exact ⟨(cell_of_block (k := 2) Hd.out rfl).1, (cell_of_block (k := 5) Hd.out rfl).1, (cell_of_block (k := 0) Hq.out rfl).1, (cell_of_block (k := 1) Hq.out rfl).1, (cell_of_block (k := 2) Hq.out rfl).1, (cell_of_block (k := 3) Hq.out rfl).1, (cell_of_block (k := 4) Hq.out rfl).1, (cell_of_block (k := 5) Hq.out rfl).1⟩) ?ret21x20
      case hyt21x20 => (intro ww hSw; (try dsimp only at hSw); go_simp; first | done | with_reducible rfl)
      try simp only [Act.put, List.setIfInBounds_toArray, List.set_cons_zero, List.set_cons_succ]
      refine wpAnyH_take (i := 21) (oi := ⟨some 60, _, _, _, _, _⟩) (v := ?vt22x21) rfl (by kernel_rfl) (by kernel_rfl) (by kernel_rfl) (fun _ _ _ h => h) (Or.inl ⟨by rfl, ?hyt22x21⟩) (by exact ⟨(cell_of_block (k := 2) Hd.out rfl).1, (cell_of_block (k := 5) Hd.out rfl).1, (cell_of_block (k := 0) Hq.out rfl).1, (cell_of_block (k := 1) Hq.out rfl).1, (cell_of_block (k := 2) Hq.out rfl).1, (cell_of_block (k := 3) Hq.out rfl).1, (cell_of_block (k := 4) Hq.out rfl).1, (cell_of_block (k := 5) Hq.out rfl).1⟩) ?ret22x21
      case hyt22x21 => (intro ww hSw; (try dsimp only at hSw); go_simp; first | done | with_reducible rfl)
      try simp only [Act.put, List.setIfInBounds_toArray, List.set_cons_zero, List.set_cons_succ]
      refine wpAnyH_take (i := 22) (oi := ⟨some 61, _, _, _, _, _⟩) (v := ?vt23x22) rfl (by kernel_rfl) (by kernel_rfl) (by kernel_rfl) (fun _ _ _ h => h) (Or.inl ⟨by rfl, ?hyt23x22⟩) (by exact ⟨(cell_of_block (k := 2) Hd.out rfl).1, (cell_of_block (k := 5) Hd.out rfl).1, (cell_of_block (k := 0) Hq.out rfl).1, (cell_of_block (k := 1) Hq.out rfl).1, (cell_of_block (k := 2) Hq.out rfl).1, (cell_of_block (k := 3) Hq.out rfl).1, (cell_of_block (k := 4) Hq.out rfl).1, (cell_of_block (k := 5) Hq.out rfl).1⟩) ?ret23x22
      case hyt23x22 => (intro ww hSw; (try dsimp only at hSw); go_simp; first | done | with_reducible rfl)
      try simp only [Act.put, List.setIfInBounds_toArray, List.set_cons_zero, List.set_cons_succ]
      refine wpAnyH_take (i := 23) (oi := ⟨some 62, _, _, _, _, _⟩) (v := ?vt24x23) rfl (by kernel_rfl) (by kernel_rfl) (by kernel_rfl) (fun _ _ _ h => h) (Or.inl ⟨by rfl, ?hyt24x23⟩) (by exact ⟨(cell_of_block (k := 2) Hd.out rfl).1, (cell_of_block (k := 5) Hd.out rfl).1, (cell_of_block (k := 0) Hq.out rfl).1, (cell_of_block (k := 1) Hq.out rfl).1, (cell_of_block (k := 2) Hq.out rfl).1, (cell_of_block (k := 3) Hq.out rfl).1, (cell_of_block (k := 4) Hq.out rfl).1, (cell_of_block (k := 5) Hq.out rfl).1⟩) ?ret24x23
      case hyt24x23 => (intro ww hSw; (try dsimp only at hSw); go_simp; first | done | with_reducible rfl)
      try simp only [Act.put, List.setIfInBounds_toArray, List.set_cons_zero, List.set_cons_succ]
      refine wpAnyH_take (i := 24) (oi := ⟨some 63, _, _, _, _, _⟩) (v := ?vt25x24) rfl (by kernel_rfl) (by kernel_rfl) (by kernel_rfl) (fun _ _ _ h => h) (Or.inl ⟨by rfl, ?hyt25x24⟩) (by exact ⟨(cell_of_block (k := 2) Hd.out rfl).1, (cell_of_block (k := 5) Hd.out rfl).1, (cell_of_block (k := 0) Hq.out rfl).1, (cell_of_block (k := 1) Hq.out rfl).1, (cell_of_block (k := 2) Hq.out rfl).1, (cell_of_block (k := 3) Hq.out rfl).1, (cell_of_block (k := 4) Hq.out rfl).1, (cell_of_block (k := 5) Hq.out rfl).1⟩) ?ret25x24
      case hyt25x24 => (intro ww hSw; (try dsimp only at hSw); go_simp; first | done | with_reducible rfl)
      try simp only [Act.put, List.setIfInBounds_toArray, List.set_cons_zero, List.set_cons_succ]
      refine wpAnyH_take (i := 25) (oi := ⟨some 64, _, _, _, _, _⟩) (v := ?vt26x25) rfl (by kernel_rfl) (by kernel_rfl) (by kernel_rfl) (fun _ _ _ h => h) (Or.inl ⟨by rfl, ?hyt26x25⟩) (by exact ⟨(cell_of_block (k := 2) Hd.out rfl).1, (cell_of_block (k := 5) Hd.out rfl).1, (cell_of_block (k := 0) Hq.out rfl).1, (cell_of_block (k := 1) Hq.out rfl).1, (cell_of_block (k := 2) Hq.out rfl).1, (cell_of_block (k := 3) Hq.out rfl).1, (cell_of_block (k := 4) Hq.out rfl).1, (cell_of_block (k := 5) Hq.out rfl).1⟩) ?ret26x25
      case hyt26x25 => (intro ww hSw; (try dsimp only at hSw); go_simp; first | done | with_reducible rfl)
      try simp only [Act.put, List.setIfInBounds_toArray, List.set_cons_zero, List.set_cons_succ]
      refine wpAnyH_take (i := 26) (oi := ⟨some 65, _, _, _, _, _⟩) (v := ?vt27x26) rfl (by kernel_rfl) (by kernel_rfl) (by kernel_rfl) (fun _ _ _ h => h) (Or.inl ⟨by rfl, ?hyt27x26⟩) (by exact ⟨(cell_of_block (k := 2) Hd.out rfl).1, (cell_of_block (k := 5) Hd.out rfl).1, (cell_of_block (k := 0) Hq.out rfl).1, (cell_of_block (k := 1) Hq.out rfl).1, (cell_of_block (k := 2) Hq.out rfl).1, (cell_of_block (k := 3) Hq.out rfl).1, (cell_of_block (k := 4) Hq.out rfl).1, (cell_of_block (k := 5) Hq.out rfl).1⟩) ?ret27x26
      case hyt27x26 => (intro ww hSw; (try dsimp only at hSw); go_simp; first | done | with_reducible rfl)
      try simp only [Act.put, List.setIfInBounds_toArray, List.set_cons_zero, List.set_cons_succ]
      refine wpAnyH_take (i := 27) (oi := ⟨some 66, _, _, _, _, _⟩) (v := ?vt28x27) rfl (by kernel_rfl) (by kernel_rfl) (by kernel_rfl) (fun _ _ _ h => h) (Or.inl ⟨by rfl, ?hyt28x27⟩) (by exact ⟨(cell_of_block (k := 2) Hd.out rfl).1, (cell_of_block (k := 5) Hd.out rfl).1, (cell_of_block (k := 0) Hq.out rfl).1, (cell_of_block (k := 1) Hq.out rfl).1, (cell_of_block (k := 2) Hq.out rfl).1, (cell_of_block (k := 3) Hq.out rfl).1, (cell_of_block (k := 4) Hq.out rfl).1, (cell_of_block (k := 5) Hq.out rfl).1⟩) ?ret28x27
      case hyt28x27 => (intro ww hSw; (try dsimp only at hSw); go_simp; first | done | with_reducible rfl)
      try simp only [Act.put, List.setIfInBounds_toArray, List.set_cons_zero, List.set_cons_succ]
      refine wpAnyH_take (i := 28) (oi := ⟨some 67, _, _, _, _, _⟩) (v := ?vt29x28) rfl (by kernel_rfl) (by kernel_rfl) (by kernel_rfl) (fun _ _ _ h => h) (Or.inl ⟨by rfl, ?hyt29x28⟩) (by exact ⟨(cell_of_block (k := 2) Hd.out rfl).1, (cell_of_block (k := 5) Hd.out rfl).1, (cell_of_block (k := 0) Hq.out rfl).1, (cell_of_block (k := 1) Hq.out rfl).1, (cell_of_block (k := 2) Hq.out rfl).1, (cell_of_block (k := 3) Hq.out rfl).1, (cell_of_block (k := 4) Hq.out rfl).1, (cell_of_block (k := 5) Hq.out rfl).1⟩) ?ret29x28
      case hyt29x28 => (intro ww hSw; (try dsimp only at hSw); go_simp; first | done | with_reducible rfl)
      try simp only [Act.put, List.setIfInBounds_toArray, List.set_cons_zero, List.set_cons_succ]
      refine wpAnyH_take (i := 29) (oi := ⟨some 68, _, _, _, _, _⟩) (v := ?vt30x29) rfl (by kernel_rfl) (by kernel_rfl) (by kernel_rfl) (fun _ _ _ h => h) (Or.inl ⟨by rfl, ?hyt30x29⟩) (by exact ⟨(cell_of_block (k := 2) Hd.out rfl).1, (cell_of_block (k := 5) Hd.out rfl).1, (cell_of_block (k := 0) Hq.out rfl).1, (cell_of_block (k := 1) Hq.out rfl).1, (cell_of_block (k := 2) Hq.out rfl).1, (cell_of_block (k := 3) Hq.out rfl).1, (cell_of_block (k := 4) Hq.out rfl).1, (cell_of_block (k := 5) Hq.out rfl).1⟩) ?ret30x29
      case hyt30x29 => (intro ww hSw; (try dsimp only at hSw); go_simp; first | done | with_reducible rfl)
      try simp only [Act.put, List.setIfInBounds_toArray, List.set_cons_zero, List.set_cons_succ]
      refine wpAnyH_take (i := 30) (oi := ⟨some 69, _, _, _, _, _⟩) (v := ?vt31x30) rfl (by kernel_rfl) (by kernel_rfl) (by kernel_rfl) (fun _ _ _ h => h) (Or.inl ⟨by rfl, ?hyt31x30⟩) (by exact ⟨(cell_of_block (k := 2) Hd.out rfl).1, (cell_of_block (k := 5) Hd.out rfl).1, (cell_of_block (k := 0) Hq.out rfl).1, (cell_of_block (k := 1) Hq.out rfl).1, (cell_of_block (k := 2) Hq.out rfl).1, (cell_of_block (k := 3) Hq.out rfl).1, (cell_of_block (k := 4) Hq.out rfl).1, (cell_of_block (k := 5) Hq.out rfl).1⟩) ?ret31x30
      case hyt31x30 => (intro ww hSw; (try dsimp only at hSw); go_simp; first | done | with_reducible rfl)
      try simp only [Act.put, List.setIfInBounds_toArray, List.set_cons_zero, List.set_cons_succ]
      refine wpAnyH_take (i := 31) (oi := ⟨some 70, _, _, _, _, _⟩) (v := ?vt32x31) rfl (by kernel_rfl) (by kernel_rfl) (by kernel_rfl) (fun _ _ _ h => h) (Or.inl ⟨by rfl, ?hyt32x31⟩) (by exact ⟨(cell_of_block (k := 2) Hd.out rfl).1, (cell_of_block (k := 5) Hd.out rfl).1, (cell_of_block (k := 0) Hq.out rfl).1, (cell_of_block (k := 1) Hq.out rfl).1, (cell_of_block (k := 2) Hq.out rfl).1, (cell_of_block (k := 3) Hq.out rfl).1, (cell_of_block (k := 4) Hq.out rfl).1, (cell_of_block (k := 5) Hq.out rfl).1⟩) ?ret32x31
      case hyt32x31 => (intro ww hSw; (try dsimp only at hSw); go_simp; first | done | with_reducible rfl)
      try simp only [Act.put, List.setIfInBounds_toArray, List.set_cons_zero, List.set_cons_succ]
      refine wpAnyH_take (i := 32) (oi := ⟨some 71, _, _, _, _, _⟩) (v := ?vt33x32) rfl (by kernel_rfl) (by kernel_rfl) (by kernel_rfl) (fun _ _ _ h => h) (Or.inl ⟨by rfl, ?hyt33x32⟩) (by exact ⟨(cell_of_block (k := 2) Hd.out rfl).1, (cell_of_block (k := 5) Hd.out rfl).1, (cell_of_block (k := 0) Hq.out rfl).1, (cell_of_block (k := 1) Hq.out rfl).1, (cell_of_block (k := 2) Hq.out rfl).1, (cell_of_block (k := 3) Hq.out rfl).1, (cell_of_block (k := 4) Hq.out rfl).1, (cell_of_block (k := 5) Hq.out rfl).1⟩) ?ret33x32
      case hyt33x32 => (intro ww hSw; (try dsimp only at hSw); go_simp; first | done | with_reducible rfl)
      try simp only [Act.put, List.setIfInBounds_toArray, List.set_cons_zero, List.set_cons_succ]
      refine wpAnyH_take (i := 33) (oi := ⟨some 72, _, _, _, _, _⟩) (v := ?vt34x33) rfl (by kernel_rfl) (by kernel_rfl) (by kernel_rfl) (fun _ _ _ h => h) (Or.inl ⟨by rfl, ?hyt34x33⟩) (by exact ⟨(cell_of_block (k := 2) Hd.out rfl).1, (cell_of_block (k := 5) Hd.out rfl).1, (cell_of_block (k := 0) Hq.out rfl).1, (cell_of_block (k := 1) Hq.out rfl).1, (cell_of_block (k := 2) Hq.out rfl).1, (cell_of_block (k := 3) Hq.out rfl).1, (cell_of_block (k := 4) Hq.out rfl).1, (cell_of_block (k := 5) Hq.out rfl).1⟩) ?ret34x33
      case hyt34x33 => (intro ww hSw; (try dsimp only at hSw); go_simp; first | done | with_reducible rfl)
      try simp only [Act.put, List.setIfInBounds_toArray, List.set_cons_zero, List.set_cons_succ]
      refine wpAnyH_take (i := 34) (oi := ⟨some 73, _, _, _, _, _⟩) (v := ?vt35x34) rfl (by kernel_rfl) (by kernel_rfl) (by kernel_rfl) (fun _ _ _ h => h) (Or.inl ⟨by rfl, ?hyt35x34⟩) (by exact ⟨(cell_of_block (k := 2) Hd.out rfl).1, (cell_of_block (k := 5) Hd.out rfl).1, (cell_of_block (k := 0) Hq.out rfl).1, (cell_of_block (k := 1) Hq.out rfl).1, (cell_of_block (k := 2) Hq.out rfl).1, (cell_of_block (k := 3) Hq.out rfl).1, (cell_of_block (k := 4) Hq.out rfl).1, (cell_of_block (k := 5) Hq.out rfl).1⟩) ?ret35x34
      case hyt35x34 => (intro ww hSw; (try dsimp only at hSw); go_simp; first | done | with_reducible rfl)
      try simp only [Act.put, List.setIfInBounds_toArray, List.set_cons_zero, List.set_cons_succ]
      refine wpAnyH_take (i := 35) (oi := ⟨some 74, _, _, _, _, _⟩) (v := ?vt36x35) rfl (by kernel_rfl) (by kernel_rfl) (by kernel_rfl) (fun _ _ _ h => h) (Or.inl ⟨by rfl, ?hyt36x35⟩) (by exact ⟨(cell_of_block (k := 2) Hd.out rfl).1, (cell_of_block (k := 5) Hd.out rfl).1, (cell_of_block (k := 0) Hq.out rfl).1, (cell_of_block (k := 1) Hq.out rfl).1, (cell_of_block (k := 2) Hq.out rfl).1, (cell_of_block (k := 3) Hq.out rfl).1, (cell_of_block (k := 4) Hq.out rfl).1, (cell_of_block (k := 5) Hq.out rfl).1⟩) ?ret36x35
      case hyt36x35 => (intro ww hSw; (try dsimp only at hSw); go_simp; first | done | with_reducible rfl)
      try simp only [Act.put, List.setIfInBounds_toArray, List.set_cons_zero, List.set_cons_succ]
      refine wpAnyH_take (i := 36) (oi := ⟨some 75, _, _, _, _, _⟩) (v := ?vt37x36) rfl (by kernel_rfl) (by kernel_rfl) (by kernel_rfl) (fun _ _ _ h => h) (Or.inl ⟨by rfl, ?hyt37x36⟩) (by exact ⟨(cell_of_block (k := 2) Hd.out rfl).1, (cell_of_block (k := 5) Hd.out rfl).1, (cell_of_block (k := 0) Hq.out rfl).1, (cell_of_block (k := 1) Hq.out rfl).1, (cell_of_block (k := 2) Hq.out rfl).1, (cell_of_block (k := 3) Hq.out rfl).1, (cell_of_block (k := 4) Hq.out rfl).1, (cell_of_block (k := 5) Hq.out rfl).1⟩) ?ret37x36
      case hyt37x36 => (intro ww hSw; (try dsimp only at hSw); go_simp; first | done | with_reducible rfl)
      try simp only [Act.put, List.setIfInBounds_toArray, List.set_cons_zero, List.set_cons_succ]
      refine wpAnyH_take (i := 37) (oi := ⟨some 76, _, _, _, _, _⟩) (v := ?vt38x37) rfl (by kernel_rfl) (by kernel_rfl) (by kernel_rfl) (fun _ _ _ h => h) (Or.inl ⟨by rfl, ?hyt38x37⟩) (by exact ⟨(cell_of_block (k := 2) Hd.out rfl).1, (cell_of_block (k := 5) Hd.out rfl).1, (cell_of_block (k := 0) Hq.out rfl).1, (cell_of_block (k := 1) Hq.out rfl).1, (cell_of_block (k := 2) Hq.out rfl).1, (cell_of_block (k := 3) Hq.out rfl).1, (cell_of_block (k := 4) Hq.out rfl).1, (cell_of_block (k := 5) Hq.out rfl).1⟩) ?ret38x37
      case hyt38x37 => (intro ww hSw; (try dsimp only at hSw); go_simp; first | done | with_reducible rfl)
      try simp only [Act.put, List.setIfInBounds_toArray, List.set_cons_zero, List.set_cons_succ]
      refine wpAnyH_take (i := 38) (oi := ⟨some 77, _, _, _, _, _⟩) (v := ?vt39x38) rfl (by kernel_rfl) (by kernel_rfl) (by kernel_rfl) (fun _ _ _ h => h) (Or.inl ⟨by rfl, ?hyt39x38⟩) (by exact ⟨(cell_of_block (k := 2) Hd.out rfl).1, (cell_of_block (k := 5) Hd.out rfl).1, (cell_of_block (k := 0) Hq.out rfl).1, (cell_of_block (k := 1) Hq.out rfl).1, (cell_of_block (k := 2) Hq.out rfl).1, (cell_of_block (k := 3) Hq.out rfl).1, (cell_of_block (k := 4) Hq.out rfl).1, (cell_of_block (k := 5) Hq.out rfl).1⟩) ?ret39x38
      case hyt39x38 => (intro ww hSw; (try dsimp only at hSw); go_simp; first | done | with_reducible rfl)
      try simp only [Act.put, List.setIfInBounds_toArray, List.set_cons_zero, List.set_cons_succ]
      refine wpAnyH_take (i := 39) (oi := ⟨some 78, _, _, _, _, _⟩) (v := ?vt40x39) rfl (by kernel_rfl) (by kernel_rfl) (by kernel_rfl) (fun _ _ _ h => h) (Or.inl ⟨by rfl, ?hyt40x39⟩) (by exact ⟨(cell_of_block (k := 2) Hd.out rfl).1, (cell_of_block (k := 5) Hd.out rfl).1, (cell_of_block (k := 0) Hq.out rfl).1, (cell_of_block (k := 1) Hq.out rfl).1, (cell_of_block (k := 2) Hq.out rfl).1, (cell_of_block (k := 3) Hq.out rfl).1, (cell_of_block (k := 4) Hq.out rfl).1, (cell_of_block (k := 5) Hq.out rfl).1⟩) ?ret40x39
      case hyt40x39 => (intro ww hSw; (try dsimp only at hSw); go_simp; first | done | with_reducible rfl)
      try simp only [Act.put, List.setIfInBounds_toArray, List.set_cons_zero, List.set_cons_succ]
      refine wpAnyH_take (i := 40) (oi := ⟨some 79, _, _, _, _, _⟩) (v := ?vt41x40) rfl (by kernel_rfl) (by kernel_rfl) (by kernel_rfl) (fun _ _ _ h => h) (Or.inl ⟨by rfl, ?hyt41x40⟩) (by exact ⟨(cell_of_block (k := 2) Hd.out rfl).1, (cell_of_block (k := 5) Hd.out rfl).1, (cell_of_block (k := 0) Hq.out rfl).1, (cell_of_block (k := 1) Hq.out rfl).1, (cell_of_block (k := 2) Hq.out rfl).1, (cell_of_block (k := 3) Hq.out rfl).1, (cell_of_block (k := 4) Hq.out rfl).1, (cell_of_block (k := 5) Hq.out rfl).1⟩) ?ret41x40
      case hyt41x40 => (intro ww hSw; (try dsimp only at hSw); go_simp; first | done | with_reducible rfl)
      try simp only [Act.put, List.setIfInBounds_toArray, List.set_cons_zero, List.set_cons_succ]
      refine wpAnyH_take (i := 41) (oi := ⟨some 80, _, _, _, _, _⟩) (v := ?vt42x41) rfl (by kernel_rfl) (by kernel_rfl) (by kernel_rfl) (fun _ _ _ h => h) (Or.inl ⟨by rfl, ?hyt42x41⟩) (by exact ⟨(cell_of_block (k := 2) Hd.out rfl).1, (cell_of_block (k := 5) Hd.out rfl).1, (cell_of_block (k := 0) Hq.out rfl).1, (cell_of_block (k := 1) Hq.out rfl).1, (cell_of_block (k := 2) Hq.out rfl).1, (cell_of_block (k := 3) Hq.out rfl).1, (cell_of_block (k := 4) Hq.out rfl).1, (cell_of_block (k := 5) Hq.out rfl).1⟩) ?ret42x41
      case hyt42x41 => (intro ww hSw; (try dsimp only at hSw); go_simp; first | done | with_reducible rfl)
      try simp only [Act.put, List.setIfInBounds_toArray, List.set_cons_zero, List.set_cons_succ]
      refine wpAnyH_take (i := 42) (oi := ⟨some 81, _, _, _, _, _⟩) (v := ?vt43x42) rfl (by kernel_rfl) (by kernel_rfl) (by kernel_rfl) (fun _ _ _ h => h) (Or.inl ⟨by rfl, ?hyt43x42⟩) (by exact ⟨(cell_of_block (k := 2) Hd.out rfl).1, (cell_of_block (k := 5) Hd.out rfl).1, (cell_of_block (k := 0) Hq.out rfl).1, (cell_of_block (k := 1) Hq.out rfl).1, (cell_of_block (k := 2) Hq.out rfl).1, (cell_of_block (k := 3) Hq.out rfl).1, (cell_of_block (k := 4) Hq.out rfl).1, (cell_of_block (k := 5) Hq.out rfl).1⟩) ?ret43x42
      case hyt43x42 => (intro ww hSw; (try dsimp only at hSw); go_simp; first | done | with_reducible rfl)
      try simp only [Act.put, List.setIfInBounds_toArray, List.set_cons_zero, List.set_cons_succ]
      refine wpAnyH_take (i := 43) (oi := ⟨some 82, _, _, _, _, _⟩) (v := ?vt44x43) rfl (by kernel_rfl) (by kernel_rfl) (by kernel_rfl) (fun _ _ _ h => h) (Or.inl ⟨by rfl, ?hyt44x43⟩) (by exact ⟨(cell_of_block (k := 2) Hd.out rfl).1, (cell_of_block (k := 5) Hd.out rfl).1, (cell_of_block (k := 0) Hq.out rfl).1, (cell_of_block (k := 1) Hq.out rfl).1, (cell_of_block (k := 2) Hq.out rfl).1, (cell_of_block (k := 3) Hq.out rfl).1, (cell_of_block (k := 4) Hq.out rfl).1, (cell_of_block (k := 5) Hq.out rfl).1⟩) ?ret44x43
      case hyt44x43 => (intro ww hSw; (try dsimp only at hSw); go_simp; first | done | with_reducible rfl)
      try simp only [Act.put, List.setIfInBounds_toArray, List.set_cons_zero, List.set_cons_succ]
      refine wpAnyH_take (i := 44) (oi := ⟨some 83, _, _, _, _, _⟩) (v := ?vt45x44) rfl (by kernel_rfl) (by kernel_rfl) (by kernel_rfl) (fun _ _ _ h => h) (Or.inl ⟨by rfl, ?hyt45x44⟩) (by exact ⟨(cell_of_block (k := 2) Hd.out rfl).1, (cell_of_block (k := 5) Hd.out rfl).1, (cell_of_block (k := 0) Hq.out rfl).1, (cell_of_block (k := 1) Hq.out rfl).1, (cell_of_block (k := 2) Hq.out rfl).1, (cell_of_block (k := 3) Hq.out rfl).1, (cell_of_block (k := 4) Hq.out rfl).1, (cell_of_block (k := 5) Hq.out rfl).1⟩) ?ret45x44
      case hyt45x44 => (intro ww hSw; (try dsimp only at hSw); go_simp; first | done | with_reducible rfl)
      try simp only [Act.put, List.setIfInBounds_toArray, List.set_cons_zero, List.set_cons_succ]
      refine wpAnyH_take (i := 45) (oi := ⟨some 84, _, _, _, _, _⟩) (v := ?vt46x45) rfl (by kernel_rfl) (by kernel_rfl) (by kernel_rfl) (fun _ _ _ h => h) (Or.inl ⟨by rfl, ?hyt46x45⟩) (by exact ⟨(cell_of_block (k := 2) Hd.out rfl).1, (cell_of_block (k := 5) Hd.out rfl).1, (cell_of_block (k := 0) Hq.out rfl).1, (cell_of_block (k := 1) Hq.out rfl).1, (cell_of_block (k := 2) Hq.out rfl).1, (cell_of_block (k := 3) Hq.out rfl).1, (cell_of_block (k := 4) Hq.out rfl).1, (cell_of_block (k := 5) Hq.out rfl).1⟩) ?ret46x45
      case hyt46x45 => (intro ww hSw; (try dsimp only at hSw); go_simp; first | done | with_reducible rfl)
      try simp only [Act.put, List.setIfInBounds_toArray, List.set_cons_zero, List.set_cons_succ]
      refine wpAnyH_take (i := 46) (oi := ⟨some 85, _, _, _, _, _⟩) (v := ?vt47x46) rfl (by kernel_rfl) (by kernel_rfl) (by kernel_rfl) (fun _ _ _ h => h) (Or.inl ⟨by rfl, ?hyt47x46⟩) (by exact ⟨(cell_of_block (k := 2) Hd.out rfl).1, (cell_of_block (k := 5) Hd.out rfl).1, (cell_of_block (k := 0) Hq.out rfl).1, (cell_of_block (k := 1) Hq.out rfl).1, (cell_of_block (k := 2) Hq.out rfl).1, (cell_of_block (k := 3) Hq.out rfl).1, (cell_of_block (k := 4) Hq.out rfl).1, (cell_of_block (k := 5) Hq.out rfl).1⟩) ?ret47x46
      case hyt47x46 => (intro ww hSw; (try dsimp only at hSw); go_simp; first | done | with_reducible rfl)
      try simp only [Act.put, List.setIfInBounds_toArray, List.set_cons_zero, List.set_cons_succ]
      refine wpAnyH_take (i := 47) (oi := ⟨some 86, _, _, _, _, _⟩) (v := ?vt48x47) rfl (by kernel_rfl) (by kernel_rfl) (by kernel_rfl) (fun _ _ _ h => h) (Or.inl ⟨by rfl, ?hyt48x47⟩) (by exact ⟨(cell_of_block (k := 2) Hd.out rfl).1, (cell_of_block (k := 5) Hd.out rfl).1, (cell_of_block (k := 0) Hq.out rfl).1, (cell_of_block (k := 1) Hq.out rfl).1, (cell_of_block (k := 2) Hq.out rfl).1, (cell_of_block (k := 3) Hq.out rfl).1, (cell_of_block (k := 4) Hq.out rfl).1, (cell_of_block (k := 5) Hq.out rfl).1⟩) ?ret48x47
      case hyt48x47 => (intro ww hSw; (try dsimp only at hSw); go_simp; first | done | with_reducible rfl)
      try simp only [Act.put, List.setIfInBounds_toArray, List.set_cons_zero, List.set_cons_succ]
      refine wpAnyH_take (i := 48) (oi := ⟨some 87, _, _, _, _, _⟩) (v := ?vt49x48) rfl (by kernel_rfl) (by kernel_rfl) (by kernel_rfl) (fun _ _ _ h => h) (Or.inl ⟨by rfl, ?hyt49x48⟩) (by exact ⟨(cell_of_block (k := 2) Hd.out rfl).1, (cell_of_block (k := 5) Hd.out rfl).1, (cell_of_block (k := 0) Hq.out rfl).1, (cell_of_block (k := 1) Hq.out rfl).1, (cell_of_block (k := 2) Hq.out rfl).1, (cell_of_block (k := 3) Hq.out rfl).1, (cell_of_block (k := 4) Hq.out rfl).1, (cell_of_block (k := 5) Hq.out rfl).1⟩) ?ret49x48
      case hyt49x48 => (intro ww hSw; (try dsimp only at hSw); go_simp; first | done | with_reducible rfl)
      try simp only [Act.put, List.setIfInBounds_toArray, List.set_cons_zero, List.set_cons_succ]
      refine wpAnyH_take (i := 49) (oi := ⟨some 88, _, _, _, _, _⟩) (v := ?vt50x49) rfl (by kernel_rfl) (by kernel_rfl) (by kernel_rfl) (fun _ _ _ h => h) (Or.inl ⟨by rfl, ?hyt50x49⟩) (by exact ⟨(cell_of_block (k := 2) Hd.out rfl).1, (cell_of_block (k := 5) Hd.out rfl).1, (cell_of_block (k := 0) Hq.out rfl).1, (cell_of_block (k := 1) Hq.out rfl).1, (cell_of_block (k := 2) Hq.out rfl).1, (cell_of_block (k := 3) Hq.out rfl).1, (cell_of_block (k := 4) Hq.out rfl).1, (cell_of_block (k := 5) Hq.out rfl).1⟩) ?ret50x49
      case hyt50x49 => (intro ww hSw; (try dsimp only at hSw); go_simp; first | done | with_reducible rfl)
      try simp only [Act.put, List.setIfInBounds_toArray, List.set_cons_zero, List.set_cons_succ]
      refine wpAnyH_take (i := 50) (oi := ⟨some 89, _, _, _, _, _⟩) (v := ?vt51x50) rfl (by kernel_rfl) (by kernel_rfl) (by kernel_rfl) (fun _ _ _ h => h) (Or.inl ⟨by rfl, ?hyt51x50⟩) (by exact ⟨(cell_of_block (k := 2) Hd.out rfl).1, (cell_of_block (k := 5) Hd.out rfl).1, (cell_of_block (k := 0) Hq.out rfl).1, (cell_of_block (k := 1) Hq.out rfl).1, (cell_of_block (k := 2) Hq.out rfl).1, (cell_of_block (k := 3) Hq.out rfl).1, (cell_of_block (k := 4) Hq.out rfl).1, (cell_of_block (k := 5) Hq.out rfl).1⟩) ?ret51x50
      case hyt51x50 => (intro ww hSw; (try dsimp only at hSw); go_simp; first | done | with_reducible rfl)
      try simp only [Act.put, List.setIfInBounds_toArray, List.set_cons_zero, List.set_cons_succ]
      refine wpAnyH_take (i := 51) (oi := ⟨some 90, _, _, _, _, _⟩) (v := ?vt52x51) rfl (by kernel_rfl) (by kernel_rfl) (by kernel_rfl) (fun _ _ _ h => h) (Or.inl ⟨by rfl, ?hyt52x51⟩) (by exact ⟨(cell_of_block (k := 2) Hd.out rfl).1, (cell_of_block (k := 5) Hd.out rfl).1, (cell_of_block (k := 0) Hq.out rfl).1, (cell_of_block (k := 1) Hq.out rfl).1, (cell_of_block (k := 2) Hq.out rfl).1, (cell_of_block (k := 3) Hq.out rfl).1, (cell_of_block (k := 4) Hq.out rfl).1, (cell_of_block (k := 5) Hq.out rfl).1⟩) ?ret52x51
      case hyt52x51 => (intro ww hSw; (try dsimp only at hSw); go_simp; first | done | with_reducible rfl)
      try simp only [Act.put, List.setIfInBounds_toArray, List.set_cons_zero, List.set_cons_succ]
      refine wpAnyH_take (i := 52) (oi := ⟨some 91, _, _, _, _, _⟩) (v := ?vt53x52) rfl (by kernel_rfl) (by kernel_rfl) (by kernel_rfl) (fun _ _ _ h => h) (Or.inl ⟨by rfl, ?hyt53x52⟩) (by exact ⟨(cell_of_block (k := 2) Hd.out rfl).1, (cell_of_block (k := 5) Hd.out rfl).1, (cell_of_block (k := 0) Hq.out rfl).1, (cell_of_block (k := 1) Hq.out rfl).1, (cell_of_block (k := 2) Hq.out rfl).1, (cell_of_block (k := 3) Hq.out rfl).1, (cell_of_block (k := 4) Hq.out rfl).1, (cell_of_block (k := 5) Hq.out rfl).1⟩) ?ret53x52
      case hyt53x52 => (intro ww hSw; (try dsimp only at hSw); go_simp; first | done | with_reducible rfl)
      try simp only [Act.put, List.setIfInBounds_toArray, List.set_cons_zero, List.set_cons_succ]
      refine wpAnyH_take (i := 53) (oi := ⟨some 92, _, _, _, _, _⟩) (v := ?vt54x53) rfl (by kernel_rfl) (by kernel_rfl) (by kernel_rfl) (fun _ _ _ h => h) (Or.inl ⟨by rfl, ?hyt54x53⟩) (by exact ⟨(cell_of_block (k := 2) Hd.out rfl).1, (cell_of_block (k := 5) Hd.out rfl).1, (cell_of_block (k := 0) Hq.out rfl).1, (cell_of_block (k := 1) Hq.out rfl).1, (cell_of_block (k := 2) Hq.out rfl).1, (cell_of_block (k := 3) Hq.out rfl).1, (cell_of_block (k := 4) Hq.out rfl).1, (cell_of_block (k := 5) Hq.out rfl).1⟩) ?ret54x53
      case hyt54x53 => (intro ww hSw; (try dsimp only at hSw); go_simp; first | done | with_reducible rfl)
      try simp only [Act.put, List.setIfInBounds_toArray, List.set_cons_zero, List.set_cons_succ]
      refine wpAnyH_take (i := 54) (oi := ⟨some 93, _, _, _, _, _⟩) (v := ?vt55x54) rfl (by kernel_rfl) (by kernel_rfl) (by kernel_rfl) (fun _ _ _ h => h) (Or.inl ⟨by rfl, ?hyt55x54⟩) (by exact ⟨(cell_of_block (k := 2) Hd.out rfl).1, (cell_of_block (k := 5) Hd.out rfl).1, (cell_of_block (k := 0) Hq.out rfl).1, (cell_of_block (k := 1) Hq.out rfl).1, (cell_of_block (k := 2) Hq.out rfl).1, (cell_of_block (k := 3) Hq.out rfl).1, (cell_of_block (k := 4) Hq.out rfl).1, (cell_of_block (k := 5) Hq.out rfl).1⟩) ?ret55x54
      case hyt55x54 => (intro ww hSw; (try dsimp only at hSw); go_simp; first | done | with_reducible rfl)
      try simp only [Act.put, List.setIfInBounds_toArray, List.set_cons_zero, List.set_cons_succ]
      refine wpAnyH_take (i := 55) (oi := ⟨some 94, _, _, _, _, _⟩) (v := ?vt56x55) rfl (by kernel_rfl) (by kernel_rfl) (by kernel_rfl) (fun _ _ _ h => h) (Or.inl ⟨by rfl, ?hyt56x55⟩) (by exact ⟨(cell_of_block (k := 2) Hd.out rfl).1, (cell_of_block (k := 5) Hd.out rfl).1, (cell_of_block (k := 0) Hq.out rfl).1, (cell_of_block (k := 1) Hq.out rfl).1, (cell_of_block (k := 2) Hq.out rfl).1, (cell_of_block (k := 3) Hq.out rfl).1, (cell_of_block (k := 4) Hq.out rfl).1, (cell_of_block (k := 5) Hq.out rfl).1⟩) ?ret56x55
      case hyt56x55 => (intro ww hSw; (try dsimp only at hSw); go_simp; first | done | with_reducible rfl)
      try simp only [Act.put, List.setIfInBounds_toArray, List.set_cons_zero, List.set_cons_succ]
      refine wpAnyH_take (i := 56) (oi := ⟨some 95, _, _, _, _, _⟩) (v := ?vt57x56) rfl (by kernel_rfl) (by kernel_rfl) (by kernel_rfl) (fun _ _ _ h => h) (Or.inl ⟨by rfl, ?hyt57x56⟩) (by exact ⟨(cell_of_block (k := 2) Hd.out rfl).1, (cell_of_block (k := 5) Hd.out rfl).1, (cell_of_block (k := 0) Hq.out rfl).1, (cell_of_block (k := 1) Hq.out rfl).1, (cell_of_block (k := 2) Hq.out rfl).1, (cell_of_block (k := 3) Hq.out rfl).1, (cell_of_block (k := 4) Hq.out rfl).1, (cell_of_block (k := 5) Hq.out rfl).1⟩) ?ret57x56
      case hyt57x56 => (intro ww hSw; (try dsimp only at hSw); go_simp; first | done | with_reducible rfl)
      try simp only [Act.put, List.setIfInBounds_toArray, List.set_cons_zero, List.set_cons_succ]
      refine wpAnyH_take (i := 57) (oi := ⟨some 96, _, _, _, _, _⟩) (v := ?vt58x57) rfl (by kernel_rfl) (by kernel_rfl) (by kernel_rfl) (fun _ _ _ h => h) (Or.inl ⟨by rfl, ?hyt58x57⟩) (by exact ⟨(cell_of_block (k := 2) Hd.out rfl).1, (cell_of_block (k := 5) Hd.out rfl).1, (cell_of_block (k := 0) Hq.out rfl).1, (cell_of_block (k := 1) Hq.out rfl).1, (cell_of_block (k := 2) Hq.out rfl).1, (cell_of_block (k := 3) Hq.out rfl).1, (cell_of_block (k := 4) Hq.out rfl).1, (cell_of_block (k := 5) Hq.out rfl).1⟩) ?ret58x57
      case hyt58x57 => (intro ww hSw; (try dsimp only at hSw); go_simp; first | done | with_reducible rfl)
      try simp only [Act.put, List.setIfInBounds_toArray, List.set_cons_zero, List.set_cons_succ]
      refine wpAnyH_take (i := 58) (oi := ⟨some 97, _, _, _, _, _⟩) (v := ?vt59x58) rfl (by kernel_rfl) (by kernel_rfl) (by kernel_rfl) (fun _ _ _ h => h) (Or.inl ⟨by rfl, ?hyt59x58⟩) (by exact ⟨(cell_of_block (k := 2) Hd.out rfl).1, (cell_of_block (k := 5) Hd.out rfl).1, (cell_of_block (k := 0) Hq.out rfl).1, (cell_of_block (k := 1) Hq.out rfl).1, (cell_of_block (k := 2) Hq.out rfl).1, (cell_of_block (k := 3) Hq.out rfl).1, (cell_of_block (k := 4) Hq.out rfl).1, (cell_of_block (k := 5) Hq.out rfl).1⟩) ?ret59x58
      case hyt59x58 => (intro ww hSw; (try dsimp only at hSw); go_simp; first | done | with_reducible rfl)
      try simp only [Act.put, List.setIfInBounds_toArray, List.set_cons_zero, List.set_cons_succ]
      refine wpAnyH_take (i := 59) (oi := ⟨some 98, _, _, _, _, _⟩) (v := ?vt60x59) rfl (by kernel_rfl) (by kernel_rfl) (by kernel_rfl) (fun _ _ _ h => h) (Or.inl ⟨by rfl, ?hyt60x59⟩) (by exact ⟨(cell_of_block (k := 2) Hd.out rfl).1, (cell_of_block (k := 5) Hd.out rfl).1, (cell_of_block (k := 0) Hq.out rfl).1, (cell_of_block (k := 1) Hq.out rfl).1, (cell_of_block (k := 2) Hq.out rfl).1, (cell_of_block (k := 3) Hq.out rfl).1, (cell_of_block (k := 4) Hq.out rfl).1, (cell_of_block (k := 5) Hq.out rfl).1⟩) ?ret60x59
      case hyt60x59 => (intro ww hSw; (try dsimp only at hSw); go_simp; first | done | with_reducible rfl)
      try simp only [Act.put, List.setIfInBounds_toArray, List.set_cons_zero, List.set_cons_succ]
      refine wpAnyH_take (i := 60) (oi := ⟨some 99, _, _, _, _, _⟩) (v := ?vt61x60) rfl (by kernel_rfl) (by kernel_rfl) (by kernel_rfl) (fun _ _ _ h => h) (Or.inl ⟨by rfl, ?hyt61x60⟩) (by exact ⟨(cell_of_block (k := 2) Hd.out rfl).1, (cell_of_block (k := 5) Hd.out rfl).1, (cell_of_block (k := 0) Hq.out rfl).1, (cell_of_block (k := 1) Hq.out rfl).1, (cell_of_block (k := 2) Hq.out rfl).1, (cell_of_block (k := 3) Hq.out rfl).1, (cell_of_block (k := 4) Hq.out rfl).1, (cell_of_block (k := 5) Hq.out rfl).1⟩) ?ret61x60
      case hyt61x60 => (intro ww hSw; (try dsimp only at hSw); go_simp; first | done | with_reducible rfl)
      try simp only [Act.put, List.setIfInBounds_toArray, List.set_cons_zero, List.set_cons_succ]
      refine wpAnyH_take (i := 61) (oi := ⟨some 100, _, _, _, _, _⟩) (v := ?vt62x61) rfl (by kernel_rfl) (by kernel_rfl) (by kernel_rfl) (fun _ _ _ h => h) (Or.inl ⟨by rfl, ?hyt62x61⟩) (by exact ⟨(cell_of_block (k := 2) Hd.out rfl).1, (cell_of_block (k := 5) Hd.out rfl).1, (cell_of_block (k := 0) Hq.out rfl).1, (cell_of_block (k := 1) Hq.out rfl).1, (cell_of_block (k := 2) Hq.out rfl).1, (cell_of_block (k := 3) Hq.out rfl).1, (cell_of_block (k := 4) Hq.out rfl).1, (cell_of_block (k := 5) Hq.out rfl).1⟩) ?ret62x61
      case hyt62x61 => (intro ww hSw; (try dsimp only at hSw); go_simp; first | done | with_reducible rfl)
      try simp only [Act.put, List.setIfInBounds_toArray, List.set_cons_zero, List.set_cons_succ]
      refine wpAnyH_take (i := 62) (oi := ⟨some 101, _, _, _, _, _⟩) (v := ?vt63x62) rfl (by kernel_rfl) (by kernel_rfl) (by kernel_rfl) (fun _ _ _ h => h) (Or.inl ⟨by rfl, ?hyt63x62⟩) (by exact ⟨(cell_of_block (k := 2) Hd.out rfl).1, (cell_of_block (k := 5) Hd.out rfl).1, (cell_of_block (k := 0) Hq.out rfl).1, (cell_of_block (k := 1) Hq.out rfl).1, (cell_of_block (k := 2) Hq.out rfl).1, (cell_of_block (k := 3) Hq.out rfl).1, (cell_of_block (k := 4) Hq.out rfl).1, (cell_of_block (k := 5) Hq.out rfl).1⟩) ?ret63x62
      case hyt63x62 => (intro ww hSw; (try dsimp only at hSw); go_simp; first | done | with_reducible rfl)
      try simp only [Act.put, List.setIfInBounds_toArray, List.set_cons_zero, List.set_cons_succ]
      refine wpAnyH_take (i := 63) (oi := ⟨some 2, _, _, _, _, _⟩) (v := ?vt64x63) rfl (by kernel_rfl) (by kernel_rfl) (by kernel_rfl) (fun _ _ _ h => h) (Or.inl ⟨by rfl, ?hyt64x63⟩) (by exact ⟨(cell_of_block (k := 2) Hd.out rfl).1, (cell_of_block (k := 5) Hd.out rfl).1, (cell_of_block (k := 0) Hq.out rfl).1, (cell_of_block (k := 1) Hq.out rfl).1, (cell_of_block (k := 2) Hq.out rfl).1, (cell_of_block (k := 3) Hq.out rfl).1, (cell_of_block (k := 4) Hq.out rfl).1, (cell_of_block (k := 5) Hq.out rfl).1⟩) ?ret64x63
      case hyt64x63 => (intro ww hSw; (try dsimp only at hSw); go_simp; first | done | with_reducible rfl)
      try simp only [Act.put, List.setIfInBounds_toArray, List.set_cons_zero, List.set_cons_succ]
      refine wpAnyH_done (by kernel_rfl) ?_ _
      go_wp2_with fail
      go_ret
      exact ⟨rfl, HB9⟩
    · have hl' : ((d1.recs.length : Int) == 0) = false := by rw [beq_eq_false_iff_ne]; omega
      rw [decide_eq_true hc, decide_eq_false hl] at hmv
      subst hmv; clear hc hl
      refine wp_region_held_drew (S := (fun w' => w'.cell? ⟨w2.heap.size, 2, none⟩ = some (.int .i64 d1.code) ∧ w'.cell? ⟨w2.heap.size, 5, none⟩ = some (.slice A1 d1.recs.length c1) ∧ w'.cell? ⟨w2.heap.size + 1, 0, none⟩ = some (.int .i64 d1.id) ∧ w'.cell? ⟨w2.heap.size + 1, 1, none⟩ = some (.bool false) ∧ w'.cell? ⟨w2.heap.size + 1, 2, none⟩ = some (.int .i64 d1.code) ∧ w'.cell? ⟨w2.heap.size + 1, 3, none⟩ = some (.string ⟨d1.nm.toArray⟩) ∧ w'.cell? ⟨w2.heap.size + 1, 4, none⟩ = some (.int .i64 d1.kd) ∧ w'.cell? ⟨w2.heap.size + 1, 5, none⟩ = some ((.slice A1 d1.recs.length c1)))) (by kernel_rfl) (⟨(cell_of_block (k := 2) Hd.out rfl).1, (cell_of_block (k := 5) Hd.out rfl).1, (cell_of_block (k := 0) Hq.out rfl).1, (cell_of_block (k := 1) Hq.out rfl).1, (cell_of_block (k := 2) Hq.out rfl).1, (cell_of_block (k := 3) Hq.out rfl).1, (cell_of_block (k := 4) Hq.out rfl).1, (cell_of_block (k := 5) Hq.out rfl).1⟩) ?_
      intro hS
      refine wpAnyH_take (i := 0) (oi := ⟨some 39, _, _, _, _, _⟩) (v := ?vt65x0) rfl (by kernel_rfl) (by kernel_rfl) (by kernel_rfl) (fun _ _ _ h => h) (Or.inl ⟨by rfl, ?hyt65x0⟩) (by exact hS) ?ret65x0
      case hyt65x0 => (intro ww hSw; (try dsimp only at hSw); go_simp; first | done | with_reducible rfl)
      try simp only [Act.put, List.setIfInBounds_toArray, List.set_cons_zero, List.set_cons_succ]
      refine wpAnyH_take (i := 1) (oi := ⟨some 40, _, _, _, _, _⟩) (v := ?vt66x1) rfl (by kernel_rfl) (by kernel_rfl) (by kernel_rfl) (fun _ _ _ h => h) (Or.inl ⟨by rfl, ?hyt66x1⟩) (by exact hS) ?ret66x1
      case hyt66x1 => (intro ww hSw; (try dsimp only at hSw); go_simp; first | done | with_reducible rfl)
      try simp only [Act.put, List.setIfInBounds_toArray, List.set_cons_zero, List.set_cons_succ]
      refine wpAnyH_take (i := 2) (oi := ⟨some 41, _, _, _, _, _⟩) (v := ?vt67x2) rfl (by kernel_rfl) (by kernel_rfl) (by kernel_rfl) (fun _ _ _ h => h) (Or.inl ⟨by rfl, ?hyt67x2⟩) (by exact hS) ?ret67x2
      case hyt67x2 => (intro ww hSw; (try dsimp only at hSw); go_simp; first | done | with_reducible rfl)
      try simp only [Act.put, List.setIfInBounds_toArray, List.set_cons_zero, List.set_cons_succ]
      refine wpAnyH_take (i := 4) (oi := ⟨some 43, _, _, _, _, _⟩) (v := ?vt68x4) rfl (by kernel_rfl) (by kernel_rfl) (by kernel_rfl) (fun _ _ _ h => h) (Or.inl ⟨by rfl, ?hyt68x4⟩) (by exact hS) ?ret68x4
      case hyt68x4 => (intro ww hSw; (try dsimp only at hSw); go_simp; first | done | with_reducible rfl)
      try simp only [Act.put, List.setIfInBounds_toArray, List.set_cons_zero, List.set_cons_succ]
      refine wpAnyH_take (i := 5) (oi := ⟨some 44, _, _, _, _, _⟩) (v := ?vt69x5) rfl (by kernel_rfl) (by kernel_rfl) (by kernel_rfl) (fun _ _ _ h => h) (Or.inl ⟨by rfl, ?hyt69x5⟩) (by exact hS) ?ret69x5
      case hyt69x5 => (intro ww hSw; (try dsimp only at hSw); go_simp; first | done | with_reducible rfl)
      try simp only [Act.put, List.setIfInBounds_toArray, List.set_cons_zero, List.set_cons_succ]
      refine wpAnyH_take (i := 6) (oi := ⟨some 45, _, _, _, _, _⟩) (v := ?vt70x6) rfl (by kernel_rfl) (by kernel_rfl) (by kernel_rfl) (fun _ _ _ h => h) (Or.inl ⟨by rfl, ?hyt70x6⟩) (by exact hS) ?ret70x6
      case hyt70x6 => (intro ww hSw; (try dsimp only at hSw); go_simp; first | done | with_reducible rfl)
      try simp only [Act.put, List.setIfInBounds_toArray, List.set_cons_zero, List.set_cons_succ]
      refine wpAnyH_ready (rs := [3]) (by kernel_rfl) (by simp) ?_
      refine AllReadyH.cons (o := ⟨some 42, _, _, _, _, _⟩) rfl (fun K71 hK71 => ?_) AllReadyH.nil
      go_simp
      refine (HV.out _ _ _ (by first | exact SRow.mono Hr1.out Hlo1.out | exact rr_drew (SRow.mono Hr1.out Hlo1.out))).mono ?_
      rintro e w9 ⟨rfl, hb9⟩
      dsimp only
      have HB9 := below_call HB (below_undrew hb9)
      have Hd9 := Lib.hid (bblock hb9 Hd.out); have Hq9 := Lib.hid (bblock hb9 Hq.out); clear Hd Hq; have Hd := Hd9; have Hq := Hq9; clear Hd9 Hq9 hb9
      refine hK71.out _ _ (⟨(cell_of_block (k := 2) Hd.out rfl).1, (cell_of_block (k := 5) Hd.out rfl).1, (cell_of_block (k := 0) Hq.out rfl).1, (cell_of_block (k := 1) Hq.out rfl).1, (cell_of_block (k := 2) Hq.out rfl).1, (cell_of_block (k := 3) Hq.out rfl).1, (cell_of_block (k := 4) Hq.out rfl).1, (cell_of_block (k := 5) Hq.out rfl).1⟩) (fun h71 => ?_)
      try simp only [Act.put, List.setIfInBounds_toArray, List.set_cons_zero, List.set_cons_succ]
      have hS9 := h71
      refine wpAnyH_take (i := 7) (oi := ⟨some 46, _, _, _, _, _⟩) (v := ?vt72x7) rfl (by kernel_rfl) (by kernel_rfl) (by kernel_rfl) (fun _ _ _ h => h) (Or.inl ⟨by rfl, ?hyt72x7⟩) (by exact ⟨(cell_of_block (k := 2) Hd.out rfl).1, (cell_of_block (k := 5) Hd.out rfl).1, (cell_of_block (k := 0) Hq.out rfl).1, (cell_of_block (k := 1) Hq.out rfl).1, (cell_of_block (k := 2) Hq.out rfl).1, (cell_of_block (k := 3) Hq.out rfl).1, (cell_of_block (k := 4) Hq.out rfl).1, (cell_of_block (k := 5) Hq.out rfl).1⟩) ?ret72x7
      case hyt72x7 => (intro ww hSw; (try dsimp only at hSw); go_simp; first | done | with_reducible rfl)
      try simp only [Act.put, List.setIfInBounds_toArray, List.set_cons_zero, List.set_cons_succ]
      refine wpAnyH_take (i := 8) (oi := ⟨some 47, _, _, _, _, _⟩) (v := ?vt73x8) rfl (by kernel_rfl) (by kernel_rfl) (by kernel_rfl) (fun _ _ _ h => h) (Or.inl ⟨by rfl, ?hyt73x8⟩) (by exact ⟨(cell_of_block (k := 2) Hd.out rfl).1, (cell_of_block (k := 5) Hd.out rfl).1, (cell_of_block (k := 0) Hq.out rfl).1, (cell_of_block (k := 1) Hq.out rfl).1, (cell_of_block (k := 2) Hq.out rfl).1, (cell_of_block (k := 3) Hq.out rfl).1, (cell_of_block (k := 4) Hq.out rfl).1, (cell_of_block (k := 5) Hq.out rfl).1⟩) ?ret73x8
      case hyt73x8 => (intro ww hSw; (try dsimp only at hSw); go_simp; first | done | with_reducible rfl)
      try simp only [Act.put, List.setIfInBounds_toArray, List.set_cons_zero, List.set_cons_succ]
      refine wpAnyH_take (i := 9) (oi := ⟨some 48, _, _, _, _, _⟩) (v := ?vt74x9) rfl (by kernel_rfl) (by kernel_rfl) (by kernel_rfl) (fun _ _ _ h => h) (Or.inl ⟨by rfl, ?hyt74x9⟩) (by exact ⟨(cell_of_block (k := 2) Hd.out rfl).1, (cell_of_block (k := 5) Hd.out rfl).1, (cell_of_block (k := 0) Hq.out rfl).1, (cell_of_block (k := 1) Hq.out rfl).1, (cell_of_block (k := 2) Hq.out rfl).1, (cell_of_block (k := 3) Hq.out rfl).1, (cell_of_block (k := 4) Hq.out rfl).1, (cell_of_block (k := 5) Hq.out rfl).1⟩) ?ret74x9
      case hyt74x9 => (intro ww hSw; (try dsimp only at hSw); go_simp; first | done | with_reducible rfl)
      try simp only [Act.put, List.setIfInBounds_toArray, List.set_cons_zero, List.set_cons_succ]
      refine wpAnyH_take (i := 10) (oi := ⟨some 49, _, _, _, _, _⟩) (v := ?vt75x10) rfl (by kernel_rfl) (by kernel_rfl) (by kernel_rfl) (fun _ _ _ h => h) (Or.inl ⟨by rfl, ?hyt75x10⟩) (by exact ⟨(cell_of_block (k := 2) Hd.out rfl).1, (cell_of_block (k := 5) Hd.out rfl).1, (cell_of_block (k := 0) Hq.out rfl).1, (cell_of_block (k := 1) Hq.out rfl).1, (cell_of_block (k := 2) Hq.out rfl).1, (cell_of_block (k := 3) Hq.out rfl).1, (cell_of_block (k := 4) Hq.out rfl).1, (cell_of_block (k := 5) Hq.out rfl).1⟩) ?ret75x10
      case hyt75x10 => (intro ww hSw; (try dsimp only at hSw); go_simp; first | done | with_reducible rfl)
      try simp only [Act.put, List.setIfInBounds_toArray, List.set_cons_zero, List.set_cons_succ]
      refine wpAnyH_take (i := 11) (oi := ⟨some 50, _, _, _, _, _⟩) (v := ?vt76x11) rfl (by kernel_rfl) (by kernel_rfl) (by kernel_rfl) (fun _ _ _ h => h) (Or.inl ⟨by rfl, ?hyt76x11⟩) (by exact ⟨(cell_of_block (k := 2) Hd.out rfl).1, (cell_of_block (k := 5) Hd.out rfl).1, (cell_of_block (k := 0) Hq.out rfl).1, (cell_of_block (k := 1) Hq.out rfl).1, (cell_of_block (k := 2) Hq.out rfl).1, (cell_of_block (k := 3) Hq.out rfl).1, (cell_of_block (k := 4) Hq.out rfl).1, (cell_of_block (k := 5) Hq.out rfl).1⟩) ?ret76x11
      case hyt76x11 => (intro ww hSw; (try dsimp only at hSw); go_simp; first | done | with_reducible rfl)
      try simp only [Act.put, List.setIfInBounds_toArray, List.set_cons_zero, List.set_cons_succ]
      refine wpAnyH_take (i := 12) (oi := ⟨some 51, _, _, _, _, _⟩) (v := ?vt77x12) rfl (by kernel_rfl) (by kernel_rfl) (by kernel_rfl) (fun _ _ _ h => h) (Or.inl ⟨by rfl, ?hyt77x12⟩) (by exact ⟨(cell_of_block (k := 2) Hd.out rfl).1, (cell_of_block (k := 5) Hd.out rfl).1, (cell_of_block (k := 0) Hq.out rfl).1, (cell_of_block (k := 1) Hq.out rfl).1, (cell_of_block (k := 2) Hq.out rfl).1, (cell_of_block (k := 3) Hq.out rfl).1, (cell_of_block (k := 4) Hq.out rfl).1, (cell_of_block (k := 5) Hq.out rfl).1⟩) ?ret77x12
      case hyt77x12 => (intro ww hSw; (try dsimp only at hSw); go_simp; first | done | with_reducible rfl)
      try simp only [Act.put, List.setIfInBounds_toArray, List.set_cons_zero, List.set_cons_succ]
      refine wpAnyH_take (i := 13) (oi := ⟨some 52, _, _, _, _, _⟩) (v := ?vt78x13) rfl (by kernel_rfl) (by kernel_rfl) (by kernel_rfl) (fun _ _ _ h => h) (Or.inl ⟨by rfl, ?hyt78x13⟩) (by exact ⟨(cell_of_block (k := 2) Hd.out rfl).1, (cell_of_block (k := 5) Hd.out rfl).1, (cell_of_block (k := 0) Hq.out rfl).1, (cell_of_block (k := 1) Hq.out rfl).1, (cell_of_block (k := 2) Hq.out rfl).1, (cell_of_block (k := 3) Hq.out rfl).1, (cell_of_block (k := 4) Hq.out rfl).1, (cell_of_block (k := 5) Hq.out rfl).1⟩) ?ret78x13
      case hyt78x13 => (intro ww hSw; (try dsimp only at hSw); go_simp; first | done | with_reducible rfl)
      try simp only [Act.put, List.setIfInBounds_toArray, List.set_cons_zero, List.set_cons_succ]
      refine wpAnyH_take (i := 14) (oi := ⟨some 53, _, _, _, _, _⟩) (v := ?vt79x14) rfl (by kernel_rfl) (by kernel_rfl) (by kernel_rfl) (fun _ _ _ h => h) (Or.inl ⟨by rfl, ?hyt79x14⟩) (by exact ⟨(cell_of_block (k := 2) Hd.out rfl).1, (cell_of_block (k := 5) Hd.out rfl).1, (cell_of_block (k := 0) Hq.out rfl).1, (cell_of_block (k := 1) Hq.out rfl).1, (cell_of_block (k := 2) Hq.out rfl).1, (cell_of_block (k := 3) Hq.out rfl).1, (cell_of_block (k := 4) Hq.out rfl).1, (cell_of_block (k := 5) Hq.out rfl).1⟩) ?ret79x14
      case hyt79x14 => (intro ww hSw; (try dsimp only at hSw); go_simp; first | done | with_reducible rfl)
      try simp only [Act.put, List.setIfInBounds_toArray, List.set_cons_zero, List.set_cons_succ]
      refine wpAnyH_take (i := 15) (oi := ⟨some 54, _, _, _, _, _⟩) (v := ?vt80x15) rfl (by kernel_rfl) (by kernel_rfl) (by kernel_rfl) (fun _ _ _ h => h) (Or.inl ⟨by rfl, ?hyt80x15⟩) (by exact ⟨(cell_of_block (k := 2) Hd.out rfl).1, (cell_of_block (k := 5) Hd.out rfl).1, (cell_of_block (k := 0) Hq.out rfl).1, (cell_of_block (k := 1) Hq.out rfl).1, (cell_of_block (k := 2) Hq.out rfl).1, (cell_of_block (k := 3) Hq.out rfl).1, (cell_of_block (k := 4) Hq.out rfl).1, (cell_of_block (k := 5) Hq.out rfl).1⟩) ?ret80x15
      case hyt80x15 => (intro ww hSw; (try dsimp only at hSw); go_simp; first | done | with_reducible rfl)
      try simp only [Act.put, List.setIfInBounds_toArray, List.set_cons_zero, List.set_cons_succ]
      refine wpAnyH_take (i := 16) (oi := ⟨some 55, _, _, _, _, _⟩) (v := ?vt81x16) rfl (by kernel_rfl) (by kernel_rfl) (by kernel_rfl) (fun _ _ _ h => h) (Or.inl ⟨by rfl, ?hyt81x16⟩) (by exact ⟨(cell_of_block (k := 2) Hd.out rfl).1, (cell_of_block (k := 5) Hd.out rfl).1, (cell_of_block (k := 0) Hq.out rfl).1, (cell_of_block (k := 1) Hq.out rfl).1, (cell_of_block (k := 2) Hq.out rfl).1, (cell_of_block (k := 3) Hq.out rfl).1, (cell_of_block (k := 4) Hq.out rfl).1, (cell_of_block (k := 5) Hq.out rfl).1⟩) ?ret81x16
      case hyt81x16 => (intro ww hSw; (try dsimp only at hSw); go_simp; first | done | with_reducible rfl)
      try simp only [Act.put, List.setIfInBounds_toArray, List.set_cons_zero, List.set_cons_succ]
      refine wpAnyH_take (i := 17) (oi := ⟨some 56, _, _, _, _, _⟩) (v := ?vt82x17) rfl (by kernel_rfl) (by kernel_rfl) (by kernel_rfl) (fun _ _ _ h => h) (Or.inl ⟨by rfl, ?hyt82x17⟩) (by exact ⟨(cell_of_block (k := 2) Hd.out rfl).1, (cell_of_block (k := 5) Hd.out rfl).1, (cell_of_block (k := 0) Hq.out rfl).1, (cell_of_block (k := 1) Hq.out rfl).1, (cell_of_block (k := 2) Hq.out rfl).1, (cell_of_block (k := 3) Hq.out rfl).1, (cell_of_block (k := 4) Hq.out rfl).1, (cell_of_block (k := 5) Hq.out rfl).1⟩) ?ret82x17
      case hyt82x17 => (intro ww hSw; (try dsimp only at hSw); go_simp; first | done | with_reducible rfl)
      try simp only [Act.put, List.setIfInBounds_toArray, List.set_cons_zero, List.set_cons_succ]
      refine wpAnyH_take (i := 18) (oi := ⟨some 57, _, _, _, _, _⟩) (v := ?vt83x18) rfl (by kernel_rfl) (by kernel_rfl) (by kernel_rfl) (fun _ _ _ h => h) (Or.inl ⟨by rfl, ?hyt83x18⟩) (by exact ⟨(cell_of_block (k := 2) Hd.out rfl).1, (cell_of_block (k := 5) Hd.out rfl).1, (cell_of_block (k := 0) Hq.out rfl).1, (cell_of_block (k := 1) Hq.out rfl).1, (cell_of_block (k := 2) Hq.out rfl).1, (cell_of_block (k := 3) Hq.out rfl).1, (cell_of_block (k := 4) Hq.out rfl).1, (cell_of_block (k := 5) Hq.out rfl).1⟩) ?ret83x18
      case hyt83x18 => (intro ww hSw; (try dsimp only at hSw); go_simp; first | done | with_reducible rfl)
      try simp only [Act.put, List.setIfInBounds_toArray, List.set_cons_zero, List.set_cons_succ]
      refine wpAnyH_take (i := 19) (oi := ⟨some 58, _, _, _, _, _⟩) (v := ?vt84x19) rfl (by kernel_rfl) (by kernel_rfl) (by kernel_rfl) (fun _ _ _ h => h) (Or.inl ⟨by rfl, ?hyt84x19⟩) (by exact ⟨(cell_of_block (k := 2) Hd.out rfl).1, (cell_of_block (k := 5) Hd.out rfl).1, (cell_of_block (k := 0) Hq.out rfl).1, (cell_of_block (k := 1) Hq.out rfl).1, (cell_of_block (k := 2) Hq.out rfl).1, (cell_of_block (k := 3) Hq.out rfl).1, (cell_of_block (k := 4) Hq.out rfl).1, (cell_of_block (k := 5) Hq.out rfl).1⟩) ?ret84x19
      case hyt84x19 => (intro ww hSw; (try dsimp only at hSw); go_simp; first | done | with_reducible rfl)
      try simp only [Act.put, List.setIfInBounds_toArray, List.set_cons_zero, List.set_cons_succ]
      refine wpAnyH_take (i := 20) (oi := ⟨some 59, _, _, _, _, _⟩) (v := ?vt85x20) rfl (by kernel_rfl) (by kernel_rfl) (by kernel_rfl) (fun _ _ _ h => h) (Or.inl ⟨by rfl, ?hyt85x20⟩) (by exact ⟨(cell_of_block (k := 2) Hd.out rfl).1, (cell_of_block (k := 5) Hd.out rfl).1, (cell_of_block (k := 0) Hq.out rfl).1, (cell_of_block (k := 1) Hq.out rfl).1, (cell_of_block (k := 2) Hq.out rfl).1, (cell_of_block (k := 3) Hq.out rfl).1, (cell_of_block (k := 4) Hq.out rfl).1, (cell_of_block (k := 5) Hq.out rfl).1⟩) ?ret85x20
      case hyt85x20 => (intro ww hSw; (try dsimp only at hSw); go_simp; first | done | with_reducible rfl)
      try simp only [Act.put, List.setIfInBounds_toArray, List.set_cons_zero, List.set_cons_succ]
      refine wpAnyH_take (i := 21) (oi := ⟨some 60, _, _, _, _, _⟩) (v := ?vt86x21) rfl (by kernel_rfl) (by kernel_rfl) (by kernel_rfl) (fun _ _ _ h => h) (Or.inl ⟨by rfl, ?hyt86x21⟩) (by exact ⟨(cell_of_block (k := 2) Hd.out rfl).1, (cell_of_block (k := 5) Hd.out rfl).1, (cell_of_block (k := 0) Hq.out rfl).1, (cell_of_block (k := 1) Hq.out rfl).1, (cell_of_block (k := 2) Hq.out rfl).1, (cell_of_block (k := 3) Hq.out rfl).1, (cell_of_block (k := 4) Hq.out rfl).1, (cell_of_block (k := 5) Hq.out rfl).1⟩) ?ret86x21
      case hyt86x21 => (intro ww hSw; (try dsimp only at hSw); go_simp; first | done | with_reducible rfl)
      try simp only [Act.put, List.setIfInBounds_toArray, List.set_cons_zero, List.set_cons_succ]
      refine wpAnyH_take (i := 22) (oi := ⟨some 61, _, _, _, _, _⟩) (v := ?vt87x22) rfl (by kernel_rfl) (by kernel_rfl) (by kernel_rfl) (fun _ _ _ h => h) (Or.inl ⟨by rfl, ?hyt87x22⟩) (by exact ⟨(cell_of_block (k := 2) Hd.out rfl).1, (cell_of_block (k := 5) Hd.out rfl).1, (cell_of_block (k := 0) Hq.out rfl).1, (cell_of_block (k := 1) Hq.out rfl).1, (cell_of_block (k := 2) Hq.out rfl).1, (cell_of_block (k := 3) Hq.out rfl).1, (cell_of_block (k := 4) Hq.out rfl).1, (cell_of_block (k := 5) Hq.out rfl).1⟩) ?ret87x22
      case hyt87x22 => (intro ww hSw; (try dsimp only at hSw); go_simp; first | done | with_reducible rfl)
      try simp only [Act.put, List.setIfInBounds_toArray, List.set_cons_zero, List.set_cons_succ]
      refine wpAnyH_take (i := 23) (oi := ⟨some 62, _, _, _, _, _⟩) (v := ?vt88x23) rfl (by kernel_rfl) (by kernel_rfl) (by kernel_rfl) (fun _ _ _ h => h) (Or.inl ⟨by rfl, ?hyt88x23⟩) (by exact ⟨(cell_of_block (k := 2) Hd.out rfl).1, (cell_of_block (k := 5) Hd.out rfl).1, (cell_of_block (k := 0) Hq.out rfl).1, (cell_of_block (k := 1) Hq.out rfl).1, (cell_of_block (k := 2) Hq.out rfl).1, (cell_of_block (k := 3) Hq.out rfl).1, (cell_of_block (k := 4) Hq.out rfl).1, (cell_of_block (k := 5) Hq.out rfl).1⟩) ?ret88x23
      case hyt88x23 => (intro ww hSw; (try dsimp only at hSw); go_simp; first | done | with_reducible rfl)
      try simp only [Act.put, List.setIfInBounds_toArray, List.set_cons_zero, List.set_cons_succ]
      refine wpAnyH_take (i := 24) (oi := ⟨some 63, _, _, _, _, _⟩) (v := ?vt89x24) rfl (by kernel_rfl) (by kernel_rfl) (by kernel_rfl) (fun _ _ _ h => h) (Or.inl ⟨by rfl, ?hyt89x24⟩) (by exact ⟨(cell_of_block (k := 2) Hd.out rfl).1, (cell_of_block (k := 5) Hd.out rfl).1, (cell_of_block (k := 0) Hq.out rfl).1, (cell_of_block (k := 1) Hq.out rfl).1, (cell_of_block (k := 2) Hq.out rfl).1, (cell_of_block (k := 3) Hq.out rfl).1, (cell_of_block (k := 4) Hq.out rfl).1, (cell_of_block (k := 5) Hq.out rfl).1⟩) ?ret89x24
      case hyt89x24 => (intro ww hSw; (try dsimp only at hSw); go_simp; first | done | with_reducible rfl)
      try simp only [Act.put, List.setIfInBounds_toArray, List.set_cons_zero, List.set_cons_succ]
      refine wpAnyH_take (i := 25) (oi := ⟨some 64, _, _, _, _, _⟩) (v := ?vt90x25) rfl (by kernel_rfl) (by kernel_rfl) (by kernel_rfl) (fun _ _ _ h => h) (Or.inl ⟨by rfl, ?hyt90x25⟩) (by exact ⟨(cell_of_block (k := 2) Hd.out rfl).1, (cell_of_block (k := 5) Hd.out rfl).1, (cell_of_block (k := 0) Hq.out rfl).1, (cell_of_block (k := 1) Hq.out rfl).1, (cell_of_block (k := 2) Hq.out rfl).1, (cell_of_block (k := 3) Hq.out rfl).1, (cell_of_block (k := 4) Hq.out rfl).1, (cell_of_block (k := 5) Hq.out rfl).1⟩) ?ret90x25
      case hyt90x25 => (intro ww hSw; (try dsimp only at hSw); go_simp; first | done | with_reducible rfl)
      try simp only [Act.put, List.setIfInBounds_toArray, List.set_cons_zero, List.set_cons_succ]
      refine wpAnyH_take (i := 26) (oi := ⟨some 65, _, _, _, _, _⟩) (v := ?vt91x26) rfl (by kernel_rfl) (by kernel_rfl) (by kernel_rfl) (fun _ _ _ h => h) (Or.inl ⟨by rfl, ?hyt91x26⟩) (by exact ⟨(cell_of_block (k := 2) Hd.out rfl).1, (cell_of_block (k := 5) Hd.out rfl).1, (cell_of_block (k := 0) Hq.out rfl).1, (cell_of_block (k := 1) Hq.out rfl).1, (cell_of_block (k := 2) Hq.out rfl).1, (cell_of_block (k := 3) Hq.out rfl).1, (cell_of_block (k := 4) Hq.out rfl).1, (cell_of_block (k := 5) Hq.out rfl).1⟩) ?ret91x26
      case hyt91x26 => (intro ww hSw; (try dsimp only at hSw); go_simp; first | done | with_reducible rfl)
      try simp only [Act.put, List.setIfInBounds_toArray, List.set_cons_zero, List.set_cons_succ]
      refine wpAnyH_take (i := 27) (oi := ⟨some 66, _, _, _, _, _⟩) (v := ?vt92x27) rfl (by kernel_rfl) (by kernel_rfl) (by kernel_rfl) (fun _ _ _ h => h) (Or.inl ⟨by rfl, ?hyt92x27⟩) (by exact ⟨(cell_of_block (k := 2) Hd.out rfl).1, (cell_of_block (k := 5) Hd.out rfl).1, (cell_of_block (k := 0) Hq.out rfl).1, (cell_of_block (k := 1) Hq.out rfl).1, (cell_of_block (k := 2) Hq.out rfl).1, (cell_of_block (k := 3) Hq.out rfl).1, (cell_of_block (k := 4) Hq.out rfl).1, (cell_of_block (k := 5) Hq.out rfl).1⟩) ?ret92x27
      case hyt92x27 => (intro ww hSw; (try dsimp only at hSw); go_simp; first | done | with_reducible rfl)
      try simp only [Act.put, List.setIfInBounds_toArray, List.set_cons_zero, List.set_cons_succ]
      refine wpAnyH_take (i := 28) (oi := ⟨some 67, _, _, _, _, _⟩) (v := ?vt93x28) rfl (by kernel_rfl) (by kernel_rfl) (by kernel_rfl) (fun _ _ _ h => h) (Or.inl ⟨by rfl, ?hyt93x28⟩) (by exact ⟨(cell_of_block (k := 2) Hd.out rfl).1, (cell_of_block (k := 5) Hd.out rfl).1, (cell_of_block (k := 0) Hq.out rfl).1, (cell_of_block (k := 1) Hq.out rfl).1, (cell_of_block (k := 2) Hq.out rfl).1, (cell_of_block (k := 3) Hq.out rfl).1, (cell_of_block (k := 4) Hq.out rfl).1, (cell_of_block (k := 5) Hq.out rfl).1⟩) ?ret93x28
      case hyt93x28 => (intro ww hSw; (try dsimp only at hSw); go_simp; first | done | with_reducible rfl)
      try simp only [Act.put, List.setIfInBounds_toArray, List.set_cons_zero, List.set_cons_succ]
      refine wpAnyH_take (i := 29) (oi := ⟨some 68, _, _, _, _, _⟩) (v := ?vt94x29) rfl (by kernel_rfl) (by kernel_rfl) (by kernel_rfl) (fun _ _ _ h => h) (Or.inl ⟨by rfl, ?hyt94x29⟩) (by exact ⟨(cell_of_block (k := 2) Hd.out rfl).1, (cell_of_block (k := 5) Hd.out rfl).1, (cell_of_block (k := 0) Hq.out rfl).1, (cell_of_block (k := 1) Hq.out rfl).1, (cell_of_block (k := 2) Hq.out rfl).1, (cell_of_block (k := 3) Hq.out rfl).1, (cell_of_block (k := 4) Hq.out rfl).1, (cell_of_block (k := 5) Hq.out rfl).1⟩) ?ret94x29
      case hyt94x29 => (intro ww hSw; (try dsimp only at hSw); go_simp; first | done | with_reducible rfl)
      try simp only [Act.put, List.setIfInBounds_toArray, List.set_cons_zero, List.set_cons_succ]
      refine wpAnyH_take (i := 30) (oi := ⟨some 69, _, _, _, _, _⟩) (v := ?vt95x30) rfl (by kernel_rfl) (by kernel_rfl) (by kernel_rfl) (fun _ _ _ h => h) (Or.inl ⟨by rfl, ?hyt95x30⟩) (by exact ⟨(cell_of_block (k := 2) Hd.out rfl).1, (cell_of_block (k := 5) Hd.out rfl).1, (cell_of_block (k := 0) Hq.out rfl).1, (cell_of_block (k := 1) Hq.out rfl).1, (cell_of_block (k := 2) Hq.out rfl).1, (cell_of_block (k := 3) Hq.out rfl).1, (cell_of_block (k := 4) Hq.out rfl).1, (cell_of_block (k := 5) Hq.out rfl).1⟩) ?ret95x30
      case hyt95x30 => (intro ww hSw; (try dsimp only at hSw); go_simp; first | done | with_reducible rfl)
      try simp only [Act.put, List.setIfInBounds_toArray, List.set_cons_zero, List.set_cons_succ]
      refine wpAnyH_take (i := 31) (oi := ⟨some 70, _, _, _, _, _⟩) (v := ?vt96x31) rfl (by kernel_rfl) (by kernel_rfl) (by kernel_rfl) (fun _ _ _ h => h) (Or.inl ⟨by rfl, ?hyt96x31⟩) (by exact ⟨(cell_of_block (k := 2) Hd.out rfl).1, (cell_of_block (k := 5) Hd.out rfl).1, (cell_of_block (k := 0) Hq.out rfl).1, (cell_of_block (k := 1) Hq.out rfl).1, (cell_of_block (k := 2) Hq.out rfl).1, (cell_of_block (k := 3) Hq.out rfl).1, (cell_of_block (k := 4) Hq.out rfl).1, (cell_of_block (k := 5) Hq.out rfl).1⟩) ?ret96x31
      case hyt96x31 => (intro ww hSw; (try dsimp only at hSw); go_simp; first | done | with_reducible rfl)
      try simp only [Act.put, List.setIfInBounds_toArray, List.set_cons_zero, List.set_cons_succ]
      refine wpAnyH_take (i := 32) (oi := ⟨some 71, _, _, _, _, _⟩) (v := ?vt97x32) rfl (by kernel_rfl) (by kernel_rfl) (by kernel_rfl) (fun _ _ _ h => h) (Or.inl ⟨by rfl, ?hyt97x32⟩) (by exact ⟨(cell_of_block (k := 2) Hd.out rfl).1, (cell_of_block (k := 5) Hd.out rfl).1, (cell_of_block (k := 0) Hq.out rfl).1, (cell_of_block (k := 1) Hq.out rfl).1, (cell_of_block (k := 2) Hq.out rfl).1, (cell_of_block (k := 3) Hq.out rfl).1, (cell_of_block (k := 4) Hq.out rfl).1, (cell_of_block (k := 5) Hq.out rfl).1⟩) ?ret97x32
      case hyt97x32 => (intro ww hSw; (try dsimp only at hSw); go_simp; first | done | with_reducible rfl)
      try simp only [Act.put, List.setIfInBounds_toArray, List.set_cons_zero, List.set_cons_succ]
      refine wpAnyH_take (i := 33) (oi := ⟨some 72, _, _, _, _, _⟩) (v := ?vt98x33) rfl (by kernel_rfl) (by kernel_rfl) (by kernel_rfl) (fun _ _ _ h => h) (Or.inl ⟨by rfl, ?hyt98x33⟩) (by exact ⟨(cell_of_block (k := 2) Hd.out rfl).1, (cell_of_block (k := 5) Hd.out rfl).1, (cell_of_block (k := 0) Hq.out rfl).1, (cell_of_block (k := 1) Hq.out rfl).1, (cell_of_block (k := 2) Hq.out rfl).1, (cell_of_block (k := 3) Hq.out rfl).1, (cell_of_block (k := 4) Hq.out rfl).1, (cell_of_block (k := 5) Hq.out rfl).1⟩) ?ret98x33
      case hyt98x33 => (intro ww hSw; (try dsimp only at hSw); go_simp; first | done | with_reducible rfl)
      try simp only [Act.put, List.setIfInBounds_toArray, List.set_cons_zero, List.set_cons_succ]
      refine wpAnyH_take (i := 34) (oi := ⟨some 73, _, _, _, _, _⟩) (v := ?vt99x34) rfl (by kernel_rfl) (by kernel_rfl) (by kernel_rfl) (fun _ _ _ h => h) (Or.inl ⟨by rfl, ?hyt99x34⟩) (by exact ⟨(cell_of_block (k := 2) Hd.out rfl).1, (cell_of_block (k := 5) Hd.out rfl).1, (cell_of_block (k := 0) Hq.out rfl).1, (cell_of_block (k := 1) Hq.out rfl).1, (cell_of_block (k := 2) Hq.out rfl).1, (cell_of_block (k := 3) Hq.out rfl).1, (cell_of_block (k := 4) Hq.out rfl).1, (cell_of_block (k := 5) Hq.out rfl).1⟩) ?ret99x34
      case hyt99x34 => (intro ww hSw; (try dsimp only at hSw); go_simp; first | done | with_reducible rfl)
      try simp only [Act.put, List.setIfInBounds_toArray, List.set_cons_zero, List.set_cons_succ]
      refine wpAnyH_take (i := 35) (oi := ⟨some 74, _, _, _, _, _⟩) (v := ?vt100x35) rfl (by kernel_rfl) (by kernel_rfl) (by kernel_rfl) (fun _ _ _ h => h) (Or.inl ⟨by rfl, ?hyt100x35⟩) (by exact ⟨(cell_of_block (k := 2) Hd.out rfl).1, (cell_of_block (k := 5) Hd.out rfl).1, (cell_of_block (k := 0) Hq.out rfl).1, (cell_of_block (k := 1) Hq.out rfl).1, (cell_of_block (k := 2) Hq.out rfl).1, (cell_of_block (k := 3) Hq.out rfl).1, (cell_of_block (k := 4) Hq.out rfl).1, (cell_of_block (k := 5) Hq.out rfl).1⟩) ?ret100x35
      case hyt100x35 => (intro ww hSw; (try dsimp only at hSw); go_simp; first | done | with_reducible rfl)
      try simp only [Act.put, List.setIfInBounds_toArray, List.set_cons_zero, List.set_cons_succ]
      refine wpAnyH_take (i := 36) (oi := ⟨some 75, _, _, _, _, _⟩) (v := ?vt101x36) rfl (by kernel_rfl) (by kernel_rfl) (by kernel_rfl) (fun _ _ _ h => h) (Or.inl ⟨by rfl, ?hyt101x36⟩) (by exact ⟨(cell_of_block (k := 2) Hd.out rfl).1, (cell_of_block (k := 5) Hd.out rfl).1, (cell_of_block (k := 0) Hq.out rfl).1, (cell_of_block (k := 1) Hq.out rfl).1, (cell_of_block (k := 2) Hq.out rfl).1, (cell_of_block (k := 3) Hq.out rfl).1, (cell_of_block (k := 4) Hq.out rfl).1, (cell_of_block (k := 5) Hq.out rfl).1⟩) ?ret101x36
      case hyt101x36 => (intro ww hSw; (try dsimp only at hSw); go_simp; first | done | with_reducible rfl)
      try simp only [Act.put, List.setIfInBounds_toArray, List.set_cons_zero, List.set_cons_succ]
      refine wpAnyH_take (i := 37) (oi := ⟨some 76, _, _, _, _, _⟩) (v := ?vt102x37) rfl (by kernel_rfl) (by kernel_rfl) (by kernel_rfl) (fun _ _ _ h => h) (Or.inl ⟨by rfl, ?hyt102x37⟩) (by exact ⟨(cell_of_block (k := 2) Hd.out rfl).1, (cell_of_block (k := 5) Hd.out rfl).1, (cell_of_block (k := 0) Hq.out rfl).1, (cell_of_block (k := 1) Hq.out rfl).1, (cell_of_block (k := 2) Hq.out rfl).1, (cell_of_block (k := 3) Hq.out rfl).1, (cell_of_block (k := 4) Hq.out rfl).1, (cell_of_block (k := 5) Hq.out rfl).1⟩) ?ret102x37
      case hyt102x37 => (intro ww hSw; (try dsimp only at hSw); go_simp; first | done | with_reducible rfl)
      try simp only [Act.put, List.setIfInBounds_toArray, List.set_cons_zero, List.set_cons_succ]
      refine wpAnyH_take (i := 38) (oi := ⟨some 77, _, _, _, _, _⟩) (v := ?vt103x38) rfl (by kernel_rfl) (by kernel_rfl) (by kernel_rfl) (fun _ _ _ h => h) (Or.inl ⟨by rfl, ?hyt103x38⟩) (by exact ⟨(cell_of_block (k := 2) Hd.out rfl).1, (cell_of_block (k := 5) Hd.out rfl).1, (cell_of_block (k := 0) Hq.out rfl).1, (cell_of_block (k := 1) Hq.out rfl).1, (cell_of_block (k := 2) Hq.out rfl).1, (cell_of_block (k := 3) Hq.out rfl).1, (cell_of_block (k := 4) Hq.out rfl).1, (cell_of_block (k := 5) Hq.out rfl).1⟩) ?ret103x38
      case hyt103x38 => (intro ww hSw; (try dsimp only at hSw); go_simp; first | done | with_reducible rfl)
      try simp only [Act.put, List.setIfInBounds_toArray, List.set_cons_zero, List.set_cons_succ]
      refine wpAnyH_take (i := 39) (oi := ⟨some 78, _, _, _, _, _⟩) (v := ?vt104x39) rfl (by kernel_rfl) (by kernel_rfl) (by kernel_rfl) (fun _ _ _ h => h) (Or.inl ⟨by rfl, ?hyt104x39⟩) (by exact ⟨(cell_of_block (k := 2) Hd.out rfl).1, (cell_of_block (k := 5) Hd.out rfl).1, (cell_of_block (k := 0) Hq.out rfl).1, (cell_of_block (k := 1) Hq.out rfl).1, (cell_of_block (k := 2) Hq.out rfl).1, (cell_of_block (k := 3) Hq.out rfl).1, (cell_of_block (k := 4) Hq.out rfl).1, (cell_of_block (k := 5) Hq.out rfl).1⟩) ?ret104x39
      case hyt104x39 => (intro ww hSw; (try dsimp only at hSw); go_simp; first | done | with_reducible rfl)
      try simp only [Act.put, List.setIfInBounds_toArray, List.set_cons_zero, List.set_cons_succ]
      refine wpAnyH_take (i := 40) (oi := ⟨some 79, _, _, _, _, _⟩) (v := ?vt105x40) rfl (by kernel_rfl) (by kernel_rfl) (by kernel_rfl) (fun _ _ _ h => h) (Or.inl ⟨by rfl, ?hyt105x40⟩) (by exact ⟨(cell_of_block (k := 2) Hd.out rfl).1, (cell_of_block (k := 5) Hd.out rfl).1, (cell_of_block (k := 0) Hq.out rfl).1, (cell_of_block (k := 1) Hq.out rfl).1, (cell_of_block (k := 2) Hq.out rfl).1, (cell_of_block (k := 3) Hq.out rfl).1, (cell_of_block (k := 4) Hq.out rfl).1, (cell_of_block (k := 5) Hq.out rfl).1⟩) ?ret105x40
      case hyt105x40 => (intro ww hSw; (try dsimp only at hSw); go_simp; first | done | with_reducible rfl)
      try simp only [Act.put, List.setIfInBounds_toArray, List.set_cons_zero, List.set_cons_succ]
      refine wpAnyH_take (i := 41) (oi := ⟨some 80, _, _, _, _, _⟩) (v := ?vt106x41) rfl (by kernel_rfl) (by kernel_rfl) (by kernel_rfl) (fun _ _ _ h => h) (Or.inl ⟨by rfl, ?hyt106x41⟩) (by exact ⟨(cell_of_block (k := 2) Hd.out rfl).1, (cell_of_block (k := 5) Hd.out rfl).1, (cell_of_block (k := 0) Hq.out rfl).1, (cell_of_block (k := 1) Hq.out rfl).1, (cell_of_block (k := 2) Hq.out rfl).1, (cell_of_block (k := 3) Hq.out rfl).1, (cell_of_block (k := 4) Hq.out rfl).1, (cell_of_block (k := 5) Hq.out rfl).1⟩) ?ret106x41
      case hyt106x41 => (intro ww hSw; (try dsimp only at hSw); go_simp; first | done | with_reducible rfl)
      try simp only [Act.put, List.setIfInBounds_toArray, List.set_cons_zero, List.set_cons_succ]
      refine wpAnyH_take (i := 42) (oi := ⟨some 81, _, _, _, _, _⟩) (v := ?vt107x42) rfl (by kernel_rfl) (by kernel_rfl) (by kernel_rfl) (fun _ _ _ h => h) (Or.inl ⟨by rfl, ?hyt107x42⟩) (by exact ⟨(cell_of_block (k := 2) Hd.out rfl).1, (cell_of_block (k := 5) Hd.out rfl).1, (cell_of_block (k := 0) Hq.out rfl).1, (cell_of_block (k := 1) Hq.out rfl).1, (cell_of_block (k := 2) Hq.out rfl).1, (cell_of_block (k := 3) Hq.out rfl).1, (cell_of_block (k := 4) Hq.out rfl).1, (cell_of_block (k := 5) Hq.out rfl).1⟩) ?ret107x42
      case hyt107x42 => (intro ww hSw; (try dsimp only at hSw); go_simp; first | done | with_reducible rfl)
      try simp only [Act.put, List.setIfInBounds_toArray, List.set_cons_zero, List.set_cons_succ]
      refine wpAnyH_take (i := 43) (oi := ⟨some 82, _, _, _, _, _⟩) (v := ?vt108x43) rfl (by kernel_rfl) (by kernel_rfl) (by kernel_rfl) (fun _ _ _ h => h) (Or.inl ⟨by rfl, ?hyt108x43⟩) (by exact ⟨(cell_of_block (k := 2) Hd.out rfl).1, (cell_of_block (k := 5) Hd.out rfl).1, (cell_of_block (k := 0) Hq.out rfl).1, (cell_of_block (k := 1) Hq.out rfl).1, (cell_of_block (k := 2) Hq.out rfl).1, (cell_of_block (k := 3) Hq.out rfl).1, (cell_of_block (k := 4) Hq.out rfl).1, (cell_of_block (k := 5) Hq.out rfl).1⟩) ?ret108x43
      case hyt108x43 => (intro ww hSw; (try dsimp only at hSw); go_simp; first | done | with_reducible rfl)
      try simp only [Act.put, List.setIfInBounds_toArray, List.set_cons_zero, List.set_cons_succ]
      refine wpAnyH_take (i := 44) (oi := ⟨some 83, _, _, _, _, _⟩) (v := ?vt109x44) rfl (by kernel_rfl) (by kernel_rfl) (by kernel_rfl) (fun _ _ _ h => h) (Or.inl ⟨by rfl, ?hyt109x44⟩) (by exact ⟨(cell_of_block (k := 2) Hd.out rfl).1, (cell_of_block (k := 5) Hd.out rfl).1, (cell_of_block (k := 0) Hq.out rfl).1, (cell_of_block (k := 1) Hq.out rfl).1, (cell_of_block (k := 2) Hq.out rfl).1, (cell_of_block (k := 3) Hq.out rfl).1, (cell_of_block (k := 4) Hq.out rfl).1, (cell_of_block (k := 5) Hq.out rfl).1⟩) ?ret109x44
      case hyt109x44 => (intro ww hSw; (try dsimp only at hSw); go_simp; first | done | with_reducible rfl)
      try simp only [Act.put, List.setIfInBounds_toArray, List.set_cons_zero, List.set_cons_succ]
      refine wpAnyH_take (i := 45) (oi := ⟨some 84, _, _, _, _, _⟩) (v := ?vt110x45) rfl (by kernel_rfl) (by kernel_rfl) (by kernel_rfl) (fun _ _ _ h => h) (Or.inl ⟨by rfl, ?hyt110x45⟩) (by exact ⟨(cell_of_block (k := 2) Hd.out rfl).1, (cell_of_block (k := 5) Hd.out rfl).1, (cell_of_block (k := 0) Hq.out rfl).1, (cell_of_block (k := 1) Hq.out rfl).1, (cell_of_block (k := 2) Hq.out rfl).1, (cell_of_block (k := 3) Hq.out rfl).1, (cell_of_block (k := 4) Hq.out rfl).1, (cell_of_block (k := 5) Hq.out rfl).1⟩) ?ret110x45
      case hyt110x45 => (intro ww hSw; (try dsimp only at hSw); go_simp; first | done | with_reducible rfl)
      try simp only [Act.put, List.setIfInBounds_toArray, List.set_cons_zero, List.set_cons_succ]
      refine wpAnyH_take (i := 46) (oi := ⟨some 85, _, _, _, _, _⟩) (v := ?vt111x46) rfl (by kernel_rfl) (by kernel_rfl) (by kernel_rfl) (fun _ _ _ h => h) (Or.inl ⟨by rfl, ?hyt111x46⟩) (by exact ⟨(cell_of_block (k := 2) Hd.out rfl).1, (cell_of_block (k := 5) Hd.out rfl).1, (cell_of_block (k := 0) Hq.out rfl).1, (cell_of_block (k := 1) Hq.out rfl).1, (cell_of_block (k := 2) Hq.out rfl).1, (cell_of_block (k := 3) Hq.out rfl).1, (cell_of_block (k := 4) Hq.out rfl).1, (cell_of_block (k := 5) Hq.out rfl).1⟩) ?ret111x46
      case hyt111x46 => (intro ww hSw; (try dsimp only at hSw); go_simp; first | done | with_reducible rfl)
      try simp only [Act.put, List.setIfInBounds_toArray, List.set_cons_zero, List.set_cons_succ]
      refine wpAnyH_take (i := 47) (oi := ⟨some 86, _, _, _, _, _⟩) (v := ?vt112x47) rfl (by kernel_rfl) (by kernel_rfl) (by kernel_rfl) (fun _ _ _ h => h) (Or.inl ⟨by rfl, ?hyt112x47⟩) (by exact ⟨(cell_of_block (k := 2) Hd.out rfl).1, (cell_of_block (k := 5) Hd.out rfl).1, (cell_of_block (k := 0) Hq.out rfl).1, (cell_of_block (k := 1) Hq.out rfl).1, (cell_of_block (k := 2) Hq.out rfl).1, (cell_of_block (k := 3) Hq.out rfl).1, (cell_of_block (k := 4) Hq.out rfl).1, (cell_of_block (k := 5) Hq.out rfl).1⟩) ?ret112x47
      case hyt112x47 => (intro ww hSw; (try dsimp only at hSw); go_simp; first | done | with_reducible rfl)
      try simp only [Act.put, List.setIfInBounds_toArray, List.set_cons_zero, List.set_cons_succ]
      refine wpAnyH_take (i := 48) (oi := ⟨some 87, _, _, _, _, _⟩) (v := ?vt113x48) rfl (by kernel_rfl) (by kernel_rfl) (by kernel_rfl) (fun _ _ _ h => h) (Or.inl ⟨by rfl, ?hyt113x48⟩) (by exact ⟨(cell_of_block (k := 2) Hd.out rfl).1, (cell_of_block (k := 5) Hd.out rfl).1, (cell_of_block (k := 0) Hq.out rfl).1, (cell_of_block (k := 1) Hq.out rfl).1, (cell_of_block (k := 2) Hq.out rfl).1, (cell_of_block (k := 3) Hq.out rfl).1, (cell_of_block (k := 4) Hq.out rfl).1, (cell_of_block (k := 5) Hq.out rfl).1⟩) ?ret113x48
      case hyt113x48 => (intro ww hSw; (try dsimp only at hSw); go_simp; first | done | with_reducible rfl)
      try simp only [Act.put, List.setIfInBounds_toArray, List.set_cons_zero, List.set_cons_succ]
      refine wpAnyH_take (i := 49) (oi := ⟨some 88, _, _, _, _, _⟩) (v := ?vt114x49) rfl (by kernel_rfl) (by kernel_rfl) (by kernel_rfl) (fun _ _ _ h => h) (Or.inl ⟨by rfl, ?hyt114x49⟩) (by exact ⟨(cell_of_block (k := 2) Hd.out rfl).1, (cell_of_block (k := 5) Hd.out rfl).1, (cell_of_block (k := 0) Hq.out rfl).1, (cell_of_block (k := 1) Hq.out rfl).1, (cell_of_block (k := 2) Hq.out rfl).1, (cell_of_block (k := 3) Hq.out rfl).1, (cell_of_block (k := 4) Hq.out rfl).1, (cell_of_block (k := 5) Hq.out rfl).1⟩) ?ret114x49
      case hyt114x49 => (intro ww hSw; (try dsimp only at hSw); go_simp; first | done | with_reducible rfl)
      try simp only [Act.put, List.setIfInBounds_toArray, List.set_cons_zero, List.set_cons_succ]
      refine wpAnyH_take (i := 50) (oi := ⟨some 89, _, _, _, _, _⟩) (v := ?vt115x50) rfl (by kernel_rfl) (by kernel_rfl) (by kernel_rfl) (fun _ _ _ h => h) (Or.inl ⟨by rfl, ?hyt115x50⟩) (by exact ⟨(cell_of_block (k := 2) Hd.out rfl).1, (cell_of_block (k := 5) Hd.out rfl).1, (cell_of_block (k := 0) Hq.out rfl).1, (cell_of_block (k := 1) Hq.out rfl).1, (cell_of_block (k := 2) Hq.out rfl).1, (cell_of_block (k := 3) Hq.out rfl).1, (cell_of_block (k := 4) Hq.out rfl).1, (cell_of_block (k := 5) Hq.out rfl).1⟩) ?ret115x50
      case hyt115x50 => (intro ww hSw; (try dsimp only at hSw); go_simp; first | done | with_reducible rfl)
      try simp only [Act.put, List.setIfInBounds_toArray, List.set_cons_zero, List.set_cons_succ]
      refine wpAnyH_take (i := 51) (oi := ⟨some 90, _, _, _, _, _⟩) (v := ?vt116x51) rfl (by kernel_rfl) (by kernel_rfl) (by kernel_rfl) (fun _ _ _ h => h) (Or.inl ⟨by rfl, ?hyt116x51⟩) (by exact ⟨(cell_of_block (k := 2) Hd.out rfl).1, (cell_of_block (k := 5) Hd.out rfl).1, (cell_of_block (k := 0) Hq.out rfl).1, (cell_of_block (k := 1) Hq.out rfl).1, (cell_of_block (k := 2) Hq.out rfl).1, (cell_of_block (k := 3) Hq.out rfl).1, (cell_of_block (k := 4) Hq.out rfl).1, (cell_of_block (k := 5) Hq.out rfl).1⟩) ?ret116x51
      case hyt116x51 => (intro ww hSw; (try dsimp only at hSw); go_simp; first | done | with_reducible rfl)
      try simp only [Act.put, List.setIfInBounds_toArray, List.set_cons_zero, List.set_cons_succ]
      refine wpAnyH_take (i := 52) (oi := ⟨some 91, _, _, _, _, _⟩) (v := ?vt117x52) rfl (by kernel_rfl) (by kernel_rfl) (by kernel_rfl) (fun _ _ _ h => h) (Or.inl ⟨by rfl, ?hyt117x52⟩) (by exact ⟨(cell_of_block (k := 2) Hd.out rfl).1, (cell_of_block (k := 5) Hd.out rfl).1, (cell_of_block (k := 0) Hq.out rfl).1, (cell_of_block (k := 1) Hq.out rfl).1, (cell_of_block (k := 2) Hq.out rfl).1, (cell_of_block (k := 3) Hq.out rfl).1, (cell_of_block (k := 4) Hq.out rfl).1, (cell_of_block (k := 5) Hq.out rfl).1⟩) ?ret117x52
      case hyt117x52 => (intro ww hSw; (try dsimp only at hSw); go_simp; first | done | with_reducible rfl)
      try simp only [Act.put, List.setIfInBounds_toArray, List.set_cons_zero, List.set_cons_succ]
      refine wpAnyH_take (i := 53) (oi := ⟨some 92, _, _, _, _, _⟩) (v := ?vt118x53) rfl (by kernel_rfl) (by kernel_rfl) (by kernel_rfl) (fun _ _ _ h => h) (Or.inl ⟨by rfl, ?hyt118x53⟩) (by exact ⟨(cell_of_block (k := 2) Hd.out rfl).1, (cell_of_block (k := 5) Hd.out rfl).1, (cell_of_block (k := 0) Hq.out rfl).1, (cell_of_block (k := 1) Hq.out rfl).1, (cell_of_block (k := 2) Hq.out rfl).1, (cell_of_block (k := 3) Hq.out rfl).1, (cell_of_block (k := 4) Hq.out rfl).1, (cell_of_block (k := 5) Hq.out rfl).1⟩) ?ret118x53
      case hyt118x53 => (intro ww hSw; (try dsimp only at hSw); go_simp; first | done | with_reducible rfl)
      try simp only [Act.put, List.setIfInBounds_toArray, List.set_cons_zero, List.set_cons_succ]
      refine wpAnyH_take (i := 54) (oi := ⟨some 93, _, _, _, _, _⟩) (v := ?vt119x54) rfl (by kernel_rfl) (by kernel_rfl) (by kernel_rfl) (fun _ _ _ h => h) (Or.inl ⟨by rfl, ?hyt119x54⟩) (by exact ⟨(cell_of_block (k := 2) Hd.out rfl).1, (cell_of_block (k := 5) Hd.out rfl).1, (cell_of_block (k := 0) Hq.out rfl).1, (cell_of_block (k := 1) Hq.out rfl).1, (cell_of_block (k := 2) Hq.out rfl).1, (cell_of_block (k := 3) Hq.out rfl).1, (cell_of_block (k := 4) Hq.out rfl).1, (cell_of_block (k := 5) Hq.out rfl).1⟩) ?ret119x54
      case hyt119x54 => (intro ww hSw; (try dsimp only at hSw); go_simp; first | done | with_reducible rfl)
      try simp only [Act.put, List.setIfInBounds_toArray, List.set_cons_zero, List.set_cons_succ]
      refine wpAnyH_take (i := 55) (oi := ⟨some 94, _, _, _, _, _⟩) (v := ?vt120x55) rfl (by kernel_rfl) (by kernel_rfl) (by kernel_rfl) (fun _ _ _ h => h) (Or.inl ⟨by rfl, ?hyt120x55⟩) (by exact ⟨(cell_of_block (k := 2) Hd.out rfl).1, (cell_of_block (k := 5) Hd.out rfl).1, (cell_of_block (k := 0) Hq.out rfl).1, (cell_of_block (k := 1) Hq.out rfl).1, (cell_of_block (k := 2) Hq.out rfl).1, (cell_of_block (k := 3) Hq.out rfl).1, (cell_of_block (k := 4) Hq.out rfl).1, (cell_of_block (k := 5) Hq.out rfl).1⟩) ?ret120x55
      case hyt120x55 => (intro ww hSw; (try dsimp only at hSw); go_simp; first | done | with_reducible rfl)
      try simp only [Act.put, List.setIfInBounds_toArray, List.set_cons_zero, List.set_cons_succ]
      refine wpAnyH_take (i := 56) (oi := ⟨some 95, _, _, _, _, _⟩) (v := ?vt121x56) rfl (by kernel_rfl) (by kernel_rfl) (by kernel_rfl) (fun _ _ _ h => h) (Or.inl ⟨by rfl, ?hyt121x56⟩) (by exact ⟨(cell_of_block (k := 2) Hd.out rfl).1, (cell_of_block (k := 5) Hd.out rfl).1, (cell_of_block (k := 0) Hq.out rfl).1, (cell_of_block (k := 1) Hq.out rfl).1, (cell_of_block (k := 2) Hq.out rfl).1, (cell_of_block (k := 3) Hq.out rfl).1, (cell_of_block (k := 4) Hq.out rfl).1, (cell_of_block (k := 5) Hq.out rfl).1⟩) ?ret121x56
      case hyt121x56 => (intro ww hSw; (try dsimp only at hSw); go_simp; first | done | with_reducible rfl)
      try simp only [Act.put, List.setIfInBounds_toArray, List.set_cons_zero, List.set_cons_succ]
      refine wpAnyH_take (i := 57) (oi := ⟨some 96, _, _, _, _, _⟩) (v := ?vt122x57) rfl (by kernel_rfl) (by kernel_rfl) (by kernel_rfl) (fun _ _ _ h => h) (Or.inl ⟨by rfl, ?hyt122x57⟩) (by exact ⟨(cell_of_block (k := 2) Hd.out rfl).1, (cell_of_block (k := 5) Hd.out rfl).1, (cell_of_block (k := 0) Hq.out rfl).1, (cell_of_block (k := 1) Hq.out rfl).1, (cell_of_block (k := 2) Hq.out rfl).1, (cell_of_block (k := 3) Hq.out rfl).1, (cell_of_block (k := 4) Hq.out rfl).1, (cell_of_block (k := 5) Hq.out rfl).1⟩) ?ret122x57
      case hyt122x57 => (intro ww hSw; (try dsimp only at hSw); go_simp; first | done | with_reducible rfl)
      try simp only [Act.put, List.setIfInBounds_toArray, List.set_cons_zero, List.set_cons_succ]
      refine wpAnyH_take (i := 58) (oi := ⟨some 97, _, _, _, _, _⟩) (v := ?vt123x58) rfl (by kernel_rfl) (by kernel_rfl) (by kernel_rfl) (fun _ _ _ h => h) (Or.inl ⟨by rfl, ?hyt123x58⟩) (by exact ⟨(cell_of_block (k := 2) Hd.out rfl).1, (cell_of_block (k := 5) Hd.out rfl).1, (cell_of_block (k := 0) Hq.out rfl).1, (cell_of_block (k := 1) Hq.out rfl).1, (cell_of_block (k := 2) Hq.out rfl).1, (cell_of_block (k := 3) Hq.out rfl).1, (cell_of_block (k := 4) Hq.out rfl).1, (cell_of_block (k := 5) Hq.out rfl).1⟩) ?ret123x58
      case hyt123x58 => (intro ww hSw; (try dsimp only at hSw); go_simp; first | done | with_reducible rfl)
      try simp only [Act.put, List.setIfInBounds_toArray, List.set_cons_zero, List.set_cons_succ]
      refine wpAnyH_take (i := 59) (oi := ⟨some 98, _, _, _, _, _⟩) (v := ?vt124x59) rfl (by kernel_rfl) (by kernel_rfl) (by kernel_rfl) (fun _ _ _ h => h) (Or.inl ⟨by rfl, ?hyt124x59⟩) (by exact ⟨(cell_of_block (k := 2) Hd.out rfl).1, (cell_of_block (k := 5) Hd.out rfl).1, (cell_of_block (k := 0) Hq.out rfl).1, (cell_of_block (k := 1) Hq.out rfl).1, (cell_of_block (k := 2) Hq.out rfl).1, (cell_of_block (k := 3) Hq.out rfl).1, (cell_of_block (k := 4) Hq.out rfl).1, (cell_of_block (k := 5) Hq.out rfl).1⟩) ?ret124x59
      case hyt124x59 => (intro ww hSw; (try dsimp only at hSw); go_simp; first | done | with_reducible rfl)
      try simp only [Act.put, List.setIfInBounds_toArray, List.set_cons_zero, List.set_cons_succ]
      refine wpAnyH_take (i := 60) (oi := ⟨some 99, _, _, _, _, _⟩) (v := ?vt125x60) rfl (by kernel_rfl) (by kernel_rfl) (by kernel_rfl) (fun _ _ _ h => h) (Or.inl ⟨by rfl, ?hyt125x60⟩) (by exact ⟨(cell_of_block (k := 2) Hd.out rfl).1, (cell_of_block (k := 5) Hd.out rfl).1, (cell_of_block (k := 0) Hq.out rfl).1, (cell_of_block (k := 1) Hq.out rfl).1, (cell_of_block (k := 2) Hq.out rfl).1, (cell_of_block (k := 3) Hq.out rfl).1, (cell_of_block (k := 4) Hq.out rfl).1, (cell_of_block (k := 5) Hq.out rfl).1⟩) ?ret125x60
      case hyt125x60 => (intro ww hSw; (try dsimp only at hSw); go_simp; first | done | with_reducible rfl)
      try simp only [Act.put, List.setIfInBounds_toArray, List.set_cons_zero, List.set_cons_succ]
      refine wpAnyH_take (i := 61) (oi := ⟨some 100, _, _, _, _, _⟩) (v := ?vt126x61) rfl (by kernel_rfl) (by kernel_rfl) (by kernel_rfl) (fun _ _ _ h => h) (Or.inl ⟨by rfl, ?hyt126x61⟩) (by exact ⟨(cell_of_block (k := 2) Hd.out rfl).1, (cell_of_block (k := 5) Hd.out rfl).1, (cell_of_block (k := 0) Hq.out rfl).1, (cell_of_block (k := 1) Hq.out rfl).1, (cell_of_block (k := 2) Hq.out rfl).1, (cell_of_block (k := 3) Hq.out rfl).1, (cell_of_block (k := 4) Hq.out rfl).1, (cell_of_block (k := 5) Hq.out rfl).1⟩) ?ret126x61
      case hyt126x61 => (intro ww hSw; (try dsimp only at hSw); go_simp; first | done | with_reducible rfl)
      try simp only [Act.put, List.setIfInBounds_toArray, List.set_cons_zero, List.set_cons_succ]
      refine wpAnyH_take (i := 62) (oi := ⟨some 101, _, _, _, _, _⟩) (v := ?vt127x62) rfl (by kernel_rfl) (by kernel_rfl) (by kernel_rfl) (fun _ _ _ h => h) (Or.inl ⟨by rfl, ?hyt127x62⟩) (by exact ⟨(cell_of_block (k := 2) Hd.out rfl).1, (cell_of_block (k := 5) Hd.out rfl).1, (cell_of_block (k := 0) Hq.out rfl).1, (cell_of_block (k := 1) Hq.out rfl).1, (cell_of_block (k := 2) Hq.out rfl).1, (cell_of_block (k := 3) Hq.out rfl).1, (cell_of_block (k := 4) Hq.out rfl).1, (cell_of_block (k := 5) Hq.out rfl).1⟩) ?ret127x62
      case hyt127x62 => (intro ww hSw; (try dsimp only at hSw); go_simp; first | done | with_reducible rfl)
      try simp only [Act.put, List.setIfInBounds_toArray, List.set_cons_zero, List.set_cons_succ]
      refine wpAnyH_take (i := 63) (oi := ⟨some 2, _, _, _, _, _⟩) (v := ?vt128x63) rfl (by kernel_rfl) (by kernel_rfl) (by kernel_rfl) (fun _ _ _ h => h) (Or.inl ⟨by rfl, ?hyt128x63⟩) (by exact ⟨(cell_of_block (k := 2) Hd.out rfl).1, (cell_of_block (k := 5) Hd.out rfl).1, (cell_of_block (k := 0) Hq.out rfl).1, (cell_of_block (k := 1) Hq.out rfl).1, (cell_of_block (k := 2) Hq.out rfl).1, (cell_of_block (k := 3) Hq.out rfl).1, (cell_of_block (k := 4) Hq.out rfl).1, (cell_of_block (k := 5) Hq.out rfl).1⟩) ?ret128x63
      case hyt128x63 => (intro ww hSw; (try dsimp only at hSw); go_simp; first | done | with_reducible rfl)
      try simp only [Act.put, List.setIfInBounds_toArray, List.set_cons_zero, List.set_cons_succ]
      refine wpAnyH_done (by kernel_rfl) ?_ _
      go_wp2_with fail
      go_ret
      exact ⟨rfl, HB9⟩
  · have hc' : (d1.code == 0) = false := by rw [beq_eq_false_iff_ne]; exact hc
    rw [decide_eq_false hc, Bool.false_and] at hmv
    subst hmv; clear hc
    refine wp_region_held_drew (S := (fun w' => w'.cell? ⟨w2.heap.size, 2, none⟩ = some (.int .i64 d1.code) ∧ w'.cell? ⟨w2.heap.size, 5, none⟩ = some (.slice A1 d1.recs.length c1) ∧ w'.cell? ⟨w2.heap.size + 1, 0, none⟩ = some (.int .i64 d1.id) ∧ w'.cell? ⟨w2.heap.size + 1, 1, none⟩ = some (.bool false) ∧ w'.cell? ⟨w2.heap.size + 1, 2, none⟩ = some (.int .i64 d1.code) ∧ w'.cell? ⟨w2.heap.size + 1, 3, none⟩ = some (.string ⟨d1.nm.toArray⟩) ∧ w'.cell? ⟨w2.heap.size + 1, 4, none⟩ = some (.int .i64 d1.kd) ∧ w'.cell? ⟨w2.heap.size + 1, 5, none⟩ = some ((.slice A1 d1.recs.length c1)))) (by kernel_rfl) (⟨(cell_of_block (k := 2) Hd.out rfl).1, (cell_of_block (k := 5) Hd.out rfl).1, (cell_of_block (k := 0) Hq.out rfl).1, (cell_of_block (k := 1) Hq.out rfl).1, (cell_of_block (k := 2) Hq.out rfl).1, (cell_of_block (k := 3) Hq.out rfl).1, (cell_of_block (k := 4) Hq.out rfl).1, (cell_of_block (k := 5) Hq.out rfl).1⟩) ?_
    intro hS
    refine wpAnyH_take (i := 0) (oi := ⟨some 39, _, _, _, _, _⟩) (v := ?vt129x0) rfl (by kernel_rfl) (by kernel_rfl) (by kernel_rfl) (fun _ _ _ h => h) (Or.inl ⟨by rfl, ?hyt129x0⟩) (by exact hS) ?ret129x0
    case hyt129x0 => (intro ww hSw; (try dsimp only at hSw); go_simp; first | done | with_reducible rfl)
    try simp only [Act.put, List.setIfInBounds_toArray, List.set_cons_zero, List.set_cons_succ]
    refine wpAnyH_take (i := 1) (oi := ⟨some 40, _, _, _, _, _⟩) (v := ?vt130x1) rfl (by kernel_rfl) (by kernel_rfl) (by kernel_rfl) (fun _ _ _ h => h) (Or.inl ⟨by rfl, ?hyt130x1⟩) (by exact hS) ?ret130x1
    case hyt130x1 => (intro ww hSw; (try dsimp only at hSw); go_simp; first | done | with_reducible rfl)
    try simp only [Act.put, List.setIfInBounds_toArray, List.set_cons_zero, List.set_cons_succ]
    refine wpAnyH_take (i := 2) (oi := ⟨some 41, _, _, _, _, _⟩) (v := ?vt131x2) rfl (by kernel_rfl) (by kernel_rfl) (by kernel_rfl) (fun _ _ _ h => h) (Or.inl ⟨by rfl, ?hyt131x2⟩) (by exact hS) ?ret131x2
    case hyt131x2 => (intro ww hSw; (try dsimp only at hSw); go_simp; first | done | with_reducible rfl)
    try simp only [Act.put, List.setIfInBounds_toArray, List.set_cons_zero, List.set_cons_succ]
    refine wpAnyH_take (i := 4) (oi := ⟨some 43, _, _, _, _, _⟩) (v := ?vt132x4) rfl (by kernel_rfl) (by kernel_rfl) (by kernel_rfl) (fun _ _ _ h => h) (Or.inl ⟨by rfl, ?hyt132x4⟩) (by exact hS) ?ret132x4
    case hyt132x4 => (intro ww hSw; (try dsimp only at hSw); go_simp; first | done | with_reducible rfl)
    try simp only [Act.put, List.setIfInBounds_toArray, List.set_cons_zero, List.set_cons_succ]
    refine wpAnyH_take (i := 5) (oi := ⟨some 44, _, _, _, _, _⟩) (v := ?vt133x5) rfl (by kernel_rfl) (by kernel_rfl) (by kernel_rfl) (fun _ _ _ h => h) (Or.inl ⟨by rfl, ?hyt133x5⟩) (by exact hS) ?ret133x5
    case hyt133x5 => (intro ww hSw; (try dsimp only at hSw); go_simp; first | done | with_reducible rfl)
    try simp only [Act.put, List.setIfInBounds_toArray, List.set_cons_zero, List.set_cons_succ]
    refine wpAnyH_take (i := 6) (oi := ⟨some 45, _, _, _, _, _⟩) (v := ?vt134x6) rfl (by kernel_rfl) (by kernel_rfl) (by kernel_rfl) (fun _ _ _ h => h) (Or.inl ⟨by rfl, ?hyt134x6⟩) (by exact hS) ?ret134x6
    case hyt134x6 => (intro ww hSw; (try dsimp only at hSw); go_simp; first | done | with_reducible rfl)
    try simp only [Act.put, List.setIfInBounds_toArray, List.set_cons_zero, List.set_cons_succ]
    refine wpAnyH_ready (rs := [3]) (by kernel_rfl) (by simp) ?_
    refine AllReadyH.cons (o := ⟨some 42, _, _, _, _, _⟩) rfl (fun K135 hK135 => ?_) AllReadyH.nil
    go_simp
    refine (HV.out _ _ _ (by first | exact SRow.mono Hr1.out Hlo1.out | exact rr_drew (SRow.mono Hr1.out Hlo1.out))).mono ?_
    rintro e w9 ⟨rfl, hb9⟩
    dsimp only
    have HB9 := below_call HB (below_undrew hb9)
    have Hd9 := Lib.hid (bblock hb9 Hd.out); have Hq9 := Lib.hid (bblock hb9 Hq.out); clear Hd Hq; have Hd := Hd9; have Hq := Hq9; clear Hd9 Hq9 hb9
    refine hK135.out _ _ (⟨(cell_of_block (k := 2) Hd.out rfl).1, (cell_of_block (k := 5) Hd.out rfl).1, (cell_of_block (k := 0) Hq.out rfl).1, (cell_of_block (k := 1) Hq.out rfl).1, (cell_of_block (k := 2) Hq.out rfl).1, (cell_of_block (k := 3) Hq.out rfl).1, (cell_of_block (k := 4) Hq.out rfl).1, (cell_of_block (k := 5) Hq.out rfl).1⟩) (fun h135 => ?_)
    try simp only [Act.put, List.setIfInBounds_toArray, List.set_cons_zero, List.set_cons_succ]
    have hS9 := h135
    refine wpAnyH_take (i := 7) (oi := ⟨some 46, _, _, _, _, _⟩) (v := ?vt136x7) rfl (by kernel_rfl) (by kernel_rfl) (by kernel_rfl) (fun _ _ _ h => h) (Or.inl ⟨by rfl, ?hyt136x7⟩) (by exact ⟨(cell_of_block (k := 2) Hd.out rfl).1, (cell_of_block (k := 5) Hd.out rfl).1, (cell_of_block (k := 0) Hq.out rfl).1, (cell_of_block (k := 1) Hq.out rfl).1, (cell_of_block (k := 2) Hq.out rfl).1, (cell_of_block (k := 3) Hq.out rfl).1, (cell_of_block (k := 4) Hq.out rfl).1, (cell_of_block (k := 5) Hq.out rfl).1⟩) ?ret136x7
    case hyt136x7 => (intro ww hSw; (try dsimp only at hSw); go_simp; first | done | with_reducible rfl)
    try simp only [Act.put, List.setIfInBounds_toArray, List.set_cons_zero, List.set_cons_succ]
    refine wpAnyH_take (i := 8) (oi := ⟨some 47, _, _, _, _, _⟩) (v := _) rfl (by kernel_rfl) (by kernel_rfl) (by kernel_rfl) (fun _ _ _ h => h) (Or.inr ⟨by first | rfl | kernel_rfl, rfl⟩) (by exact ⟨(cell_of_block (k := 2) Hd.out rfl).1, (cell_of_block (k := 5) Hd.out rfl).1, (cell_of_block (k := 0) Hq.out rfl).1, (cell_of_block (k := 1) Hq.out rfl).1, (cell_of_block (k := 2) Hq.out rfl).1, (cell_of_block (k := 3) Hq.out rfl).1, (cell_of_block (k := 4) Hq.out rfl).1, (cell_of_block (k := 5) Hq.out rfl).1⟩) ?_
    try simp only [Act.put, List.setIfInBounds_toArray, List.set_cons_zero, List.set_cons_succ]
    refine wpAnyH_take (i := 9) (oi := ⟨some 48, _, _, _, _, _⟩) (v := _) rfl (by kernel_rfl) (by kernel_rfl) (by kernel_rfl) (fun _ _ _ h => h) (Or.inr ⟨by first | rfl | kernel_rfl, rfl⟩) (by exact ⟨(cell_of_block (k := 2) Hd.out rfl).1, (cell_of_block (k := 5) Hd.out rfl).1, (cell_of_block (k := 0) Hq.out rfl).1, (cell_of_block (k := 1) Hq.out rfl).1, (cell_of_block (k := 2) Hq.out rfl).1, (cell_of_block (k := 3) Hq.out rfl).1, (cell_of_block (k := 4) Hq.out rfl).1, (cell_of_block (k := 5) Hq.out rfl).1⟩) ?_
    try simp only [Act.put, List.setIfInBounds_toArray, List.set_cons_zero, List.set_cons_succ]
    refine wpAnyH_take (i := 10) (oi := ⟨some 49, _, _, _, _, _⟩) (v := _) rfl (by kernel_rfl) (by kernel_rfl) (by kernel_rfl) (fun _ _ _ h => h) (Or.inr ⟨by first | rfl | kernel_rfl, rfl⟩) (by exact ⟨(cell_of_block (k := 2) Hd.out rfl).1, (cell_of_block (k := 5) Hd.out rfl).1, (cell_of_block (k := 0) Hq.out rfl).1, (cell_of_block (k := 1) Hq.out rfl).1, (cell_of_block (k := 2) Hq.out rfl).1, (cell_of_block (k := 3) Hq.out rfl).1, (cell_of_block (k := 4) Hq.out rfl).1, (cell_of_block (k := 5) Hq.out rfl).1⟩) ?_
    try simp only [Act.put, List.setIfInBounds_toArray, List.set_cons_zero, List.set_cons_succ]
    refine wpAnyH_take (i := 11) (oi := ⟨some 50, _, _, _, _, _⟩) (v := _) rfl (by kernel_rfl) (by kernel_rfl) (by kernel_rfl) (fun _ _ _ h => h) (Or.inr ⟨by first | rfl | kernel_rfl, rfl⟩) (by exact ⟨(cell_of_block (k := 2) Hd.out rfl).1, (cell_of_block (k := 5) Hd.out rfl).1, (cell_of_block (k := 0) Hq.out rfl).1, (cell_of_block (k := 1) Hq.out rfl).1, (cell_of_block (k := 2) Hq.out rfl).1, (cell_of_block (k := 3) Hq.out rfl).1, (cell_of_block (k := 4) Hq.out rfl).1, (cell_of_block (k := 5) Hq.out rfl).1⟩) ?_
    try simp only [Act.put, List.setIfInBounds_toArray, List.set_cons_zero, List.set_cons_succ]
    refine wpAnyH_take (i := 12) (oi := ⟨some 51, _, _, _, _, _⟩) (v := ?vt137x12) rfl (by kernel_rfl) (by kernel_rfl) (by kernel_rfl) (fun _ _ _ h => h) (Or.inl ⟨by rfl, ?hyt137x12⟩) (by exact ⟨(cell_of_block (k := 2) Hd.out rfl).1, (cell_of_block (k := 5) Hd.out rfl).1, (cell_of_block (k := 0) Hq.out rfl).1, (cell_of_block (k := 1) Hq.out rfl).1, (cell_of_block (k := 2) Hq.out rfl).1, (cell_of_block (k := 3) Hq.out rfl).1, (cell_of_block (k := 4) Hq.out rfl).1, (cell_of_block (k := 5) Hq.out rfl).1⟩) ?ret137x12
    case hyt137x12 => (intro ww hSw; (try dsimp only at hSw); go_simp; first | done | with_reducible rfl)
    try simp only [Act.put, List.setIfInBounds_toArray, List.set_cons_zero, List.set_cons_succ]
    refine wpAnyH_take (i := 13) (oi := ⟨some 52, _, _, _, _, _⟩) (v := ?vt138x13) rfl (by kernel_rfl) (by kernel_rfl) (by kernel_rfl) (fun _ _ _ h => h) (Or.inl ⟨by rfl, ?hyt138x13⟩) (by exact ⟨(cell_of_block (k := 2) Hd.out rfl).1, (cell_of_block (k := 5) Hd.out rfl).1, (cell_of_block (k := 0) Hq.out rfl).1, (cell_of_block (k := 1) Hq.out rfl).1, (cell_of_block (k := 2) Hq.out rfl).1, (cell_of_block (k := 3) Hq.out rfl).1, (cell_of_block (k := 4) Hq.out rfl).1, (cell_of_block (k := 5) Hq.out rfl).1⟩) ?ret138x13
    case hyt138x13 => (intro ww hSw; (try dsimp only at hSw); go_simp; first | done | with_reducible rfl)
    try simp only [Act.put, List.setIfInBounds_toArray, List.set_cons_zero, List.set_cons_succ]
    refine wpAnyH_take (i := 14) (oi := ⟨some 53, _, _, _, _, _⟩) (v := ?vt139x14) rfl (by kernel_rfl) (by kernel_rfl) (by kernel_rfl) (fun _ _ _ h => h) (Or.inl ⟨by rfl, ?hyt139x14⟩) (by exact ⟨(cell_of_block (k := 2) Hd.out rfl).1, (cell_of_block (k := 5) Hd.out rfl).1, (cell_of_block (k := 0) Hq.out rfl).1, (cell_of_block (k := 1) Hq.out rfl).1, (cell_of_block (k := 2) Hq.out rfl).1, (cell_of_block (k := 3) Hq.out rfl).1, (cell_of_block (k := 4) Hq.out rfl).1, (cell_of_block (k := 5) Hq.out rfl).1⟩) ?ret139x14
    case hyt139x14 => (intro ww hSw; (try dsimp only at hSw); go_simp; first | done | with_reducible rfl)
    try simp only [Act.put, List.setIfInBounds_toArray, List.set_cons_zero, List.set_cons_succ]
    refine wpAnyH_take (i := 15) (oi := ⟨some 54, _, _, _, _, _⟩) (v := ?vt140x15) rfl (by kernel_rfl) (by kernel_rfl) (by kernel_rfl) (fun _ _ _ h => h) (Or.inl ⟨by rfl, ?hyt140x15⟩) (by exact ⟨(cell_of_block (k := 2) Hd.out rfl).1, (cell_of_block (k := 5) Hd.out rfl).1, (cell_of_block (k := 0) Hq.out rfl).1, (cell_of_block (k := 1) Hq.out rfl).1, (cell_of_block (k := 2) Hq.out rfl).1, (cell_of_block (k := 3) Hq.out rfl).1, (cell_of_block (k := 4) Hq.out rfl).1, (cell_of_block (k := 5) Hq.out rfl).1⟩) ?ret140x15
    case hyt140x15 => (intro ww hSw; (try dsimp only at hSw); go_simp; first | done | with_reducible rfl)
    try simp only [Act.put, List.setIfInBounds_toArray, List.set_cons_zero, List.set_cons_succ]
    refine wpAnyH_take (i := 16) (oi := ⟨some 55, _, _, _, _, _⟩) (v := ?vt141x16) rfl (by kernel_rfl) (by kernel_rfl) (by kernel_rfl) (fun _ _ _ h => h) (Or.inl ⟨by rfl, ?hyt141x16⟩) (by exact ⟨(cell_of_block (k := 2) Hd.out rfl).1, (cell_of_block (k := 5) Hd.out rfl).1, (cell_of_block (k := 0) Hq.out rfl).1, (cell_of_block (k := 1) Hq.out rfl).1, (cell_of_block (k := 2) Hq.out rfl).1, (cell_of_block (k := 3) Hq.out rfl).1, (cell_of_block (k := 4) Hq.out rfl).1, (cell_of_block (k := 5) Hq.out rfl).1⟩) ?ret141x16
    case hyt141x16 => (intro ww hSw; (try dsimp only at hSw); go_simp; first | done | with_reducible rfl)
    try simp only [Act.put, List.setIfInBounds_toArray, List.set_cons_zero, List.set_cons_succ]
    refine wpAnyH_take (i := 17) (oi := ⟨some 56, _, _, _, _, _⟩) (v := ?vt142x17) rfl (by kernel_rfl) (by kernel_rfl) (by kernel_rfl) (fun _ _ _ h => h) (Or.inl ⟨by rfl, ?hyt142x17⟩) (by exact ⟨(cell_of_block (k := 2) Hd.out rfl).1, (cell_of_block (k := 5) Hd.out rfl).1, (cell_of_block (k := 0) Hq.out rfl).1, (cell_of_block (k := 1) Hq.out rfl).1, (cell_of_block (k := 2) Hq.out rfl).1, (cell_of_block (k := 3) Hq.out rfl).1, (cell_of_block (k := 4) Hq.out rfl).1, (cell_of_block (k := 5) Hq.out rfl).1⟩) ?ret142x17
    case hyt142x17 => (intro ww hSw; (try dsimp only at hSw); go_simp; first | done | with_reducible rfl)
    try simp only [Act.put, List.setIfInBounds_toArray, List.set_cons_zero, List.set_cons_succ]
    refine wpAnyH_take (i := 18) (oi := ⟨some 57, _, _, _, _, _⟩) (v := ?vt143x18) rfl (by kernel_rfl) (by kernel_rfl) (by kernel_rfl) (fun _ _ _ h => h) (Or.inl ⟨by rfl, ?hyt143x18⟩) (by exact ⟨(cell_of_block (k := 2) Hd.out rfl).1, (cell_of_block (k := 5) Hd.out rfl).1, (cell_of_block (k := 0) Hq.out rfl).1, (cell_of_block (k := 1) Hq.out rfl).1, (cell_of_block (k := 2) Hq.out rfl).1, (cell_of_block (k := 3) Hq.out rfl).1, (cell_of_block (k := 4) Hq.out rfl).1, (cell_of_block (k := 5) Hq.out rfl).1⟩) ?ret143x18
    case hyt143x18 => (intro ww hSw; (try dsimp only at hSw); go_simp; first | done | with_reducible rfl)
    try simp only [Act.put, List.setIfInBounds_toArray, List.set_cons_zero, List.set_cons_succ]
    refine wpAnyH_take (i := 19) (oi := ⟨some 58, _, _, _, _, _⟩) (v := ?vt144x19) rfl (by kernel_rfl) (by kernel_rfl) (by kernel_rfl) (fun _ _ _ h => h) (Or.inl ⟨by rfl, ?hyt144x19⟩) (by exact ⟨(cell_of_block (k := 2) Hd.out rfl).1, (cell_of_block (k := 5) Hd.out rfl).1, (cell_of_block (k := 0) Hq.out rfl).1, (cell_of_block (k := 1) Hq.out rfl).1, (cell_of_block (k := 2) Hq.out rfl).1, (cell_of_block (k := 3) Hq.out rfl).1, (cell_of_block (k := 4) Hq.out rfl).1, (cell_of_block (k := 5) Hq.out rfl).1⟩) ?ret144x19
    case hyt144x19 => (intro ww hSw; (try dsimp only at hSw); go_simp; first | done | with_reducible rfl)
    try simp only [Act.put, List.setIfInBounds_toArray, List.set_cons_zero, List.set_cons_succ]
    refine wpAnyH_take (i := 20) (oi := ⟨some 59, _, _, _, _, _⟩) (v := ?vt145x20) rfl (by kernel_rfl) (by kernel_rfl) (by kernel_rfl) (fun _ _ _ h => h) (Or.inl ⟨by rfl, ?hyt145x20⟩) (by exact ⟨(cell_of_block (k := 2) Hd.out rfl).1, (cell_of_block (k := 5) Hd.out rfl).1, (cell_of_block (k := 0) Hq.out rfl).1, (cell_of_block (k := 1) Hq.out rfl).1, (cell_of_block (k := 2) Hq.out rfl).1, (cell_of_block (k := 3) Hq.out rfl).1, (cell_of_block (k := 4) Hq.out rfl).1, (cell_of_block (k := 5) Hq.out rfl).1⟩) ?ret145x20
    case hyt145x20 => (intro ww hSw; (try dsimp only at hSw); go_simp; first | done | with_reducible rfl)
    try simp only [Act.put, List.setIfInBounds_toArray, List.set_cons_zero, List.set_cons_succ]
    refine wpAnyH_take (i := 21) (oi := ⟨some 60, _, _, _, _, _⟩) (v := ?vt146x21) rfl (by kernel_rfl) (by kernel_rfl) (by kernel_rfl) (fun _ _ _ h => h) (Or.inl ⟨by rfl, ?hyt146x21⟩) (by exact ⟨(cell_of_block (k := 2) Hd.out rfl).1, (cell_of_block (k := 5) Hd.out rfl).1, (cell_of_block (k := 0) Hq.out rfl).1, (cell_of_block (k := 1) Hq.out rfl).1, (cell_of_block (k := 2) Hq.out rfl).1, (cell_of_block (k := 3) Hq.out rfl).1, (cell_of_block (k := 4) Hq.out rfl).1, (cell_of_block (k := 5) Hq.out rfl).1⟩) ?ret146x21
    case hyt146x21 => (intro ww hSw; (try dsimp only at hSw); go_simp; first | done | with_reducible rfl)
    try simp only [Act.put, List.setIfInBounds_toArray, List.set_cons_zero, List.set_cons_succ]
    refine wpAnyH_take (i := 22) (oi := ⟨some 61, _, _, _, _, _⟩) (v := ?vt147x22) rfl (by kernel_rfl) (by kernel_rfl) (by kernel_rfl) (fun _ _ _ h => h) (Or.inl ⟨by rfl, ?hyt147x22⟩) (by exact ⟨(cell_of_block (k := 2) Hd.out rfl).1, (cell_of_block (k := 5) Hd.out rfl).1, (cell_of_block (k := 0) Hq.out rfl).1, (cell_of_block (k := 1) Hq.out rfl).1, (cell_of_block (k := 2) Hq.out rfl).1, (cell_of_block (k := 3) Hq.out rfl).1, (cell_of_block (k := 4) Hq.out rfl).1, (cell_of_block (k := 5) Hq.out rfl).1⟩) ?ret147x22
    case hyt147x22 => (intro ww hSw; (try dsimp only at hSw); go_simp; first | done | with_reducible rfl)
    try simp only [Act.put, List.setIfInBounds_toArray, List.set_cons_zero, List.set_cons_succ]
    refine wpAnyH_take (i := 23) (oi := ⟨some 62, _, _, _, _, _⟩) (v := ?vt148x23) rfl (by kernel_rfl) (by kernel_rfl) (by kernel_rfl) (fun _ _ _ h => h) (Or.inl ⟨by rfl, ?hyt148x23⟩) (by exact ⟨(cell_of_block (k := 2) Hd.out rfl).1, (cell_of_block (k := 5) Hd.out rfl).1, (cell_of_block (k := 0) Hq.out rfl).1, (cell_of_block (k := 1) Hq.out rfl).1, (cell_of_block (k := 2) Hq.out rfl).1, (cell_of_block (k := 3) Hq.out rfl).1, (cell_of_block (k := 4) Hq.out rfl).1, (cell_of_block (k := 5) Hq.out rfl).1⟩) ?ret148x23
    case hyt148x23 => (intro ww hSw; (try dsimp only at hSw); go_simp; first | done | with_reducible rfl)
    try simp only [Act.put, List.setIfInBounds_toArray, List.set_cons_zero, List.set_cons_succ]
    refine wpAnyH_take (i := 24) (oi := ⟨some 63, _, _, _, _, _⟩) (v := ?vt149x24) rfl (by kernel_rfl) (by kernel_rfl) (by kernel_rfl) (fun _ _ _ h => h) (Or.inl ⟨by rfl, ?hyt149x24⟩) (by exact ⟨(cell_of_block (k := 2) Hd.out rfl).1, (cell_of_block (k := 5) Hd.out rfl).1, (cell_of_block (k := 0) Hq.out rfl).1, (cell_of_block (k := 1) Hq.out rfl).1, (cell_of_block (k := 2) Hq.out rfl).1, (cell_of_block (k := 3) Hq.out rfl).1, (cell_of_block (k := 4) Hq.out rfl).1, (cell_of_block (k := 5) Hq.out rfl).1⟩) ?ret149x24
    case hyt149x24 => (intro ww hSw; (try dsimp only at hSw); go_simp; first | done | with_reducible rfl)
    try simp only [Act.put, List.setIfInBounds_toArray, List.set_cons_zero, List.set_cons_succ]
    refine wpAnyH_take (i := 25) (oi := ⟨some 64, _, _, _, _, _⟩) (v := ?vt150x25) rfl (by kernel_rfl) (by kernel_rfl) (by kernel_rfl) (fun _ _ _ h => h) (Or.inl ⟨by rfl, ?hyt150x25⟩) (by exact ⟨(cell_of_block (k := 2) Hd.out rfl).1, (cell_of_block (k := 5) Hd.out rfl).1, (cell_of_block (k := 0) Hq.out rfl).1, (cell_of_block (k := 1) Hq.out rfl).1, (cell_of_block (k := 2) Hq.out rfl).1, (cell_of_block (k := 3) Hq.out rfl).1, (cell_of_block (k := 4) Hq.out rfl).1, (cell_of_block (k := 5) Hq.out rfl).1⟩) ?ret150x25
    case hyt150x25 => (intro ww hSw; (try dsimp only at hSw); go_simp; first | done | with_reducible rfl)
    try simp only [Act.put, List.setIfInBounds_toArray, List.set_cons_zero, List.set_cons_succ]
    refine wpAnyH_take (i := 26) (oi := ⟨some 65, _, _, _, _, _⟩) (v := ?vt151x26) rfl (by kernel_rfl) (by kernel_rfl) (by kernel_rfl) (fun _ _ _ h => h) (Or.inl ⟨by rfl, ?hyt151x26⟩) (by exact ⟨(cell_of_block (k := 2) Hd.out rfl).1, (cell_of_block (k := 5) Hd.out rfl).1, (cell_of_block (k := 0) Hq.out rfl).1, (cell_of_block (k := 1) Hq.out rfl).1, (cell_of_block (k := 2) Hq.out rfl).1, (cell_of_block (k := 3) Hq.out rfl).1, (cell_of_block (k := 4) Hq.out rfl).1, (cell_of_block (k := 5) Hq.out rfl).1⟩) ?ret151x26
    case hyt151x26 => (intro ww hSw; (try dsimp only at hSw); go_simp; first | done | with_reducible rfl)
    try simp only [Act.put, List.setIfInBounds_toArray, List.set_cons_zero, List.set_cons_succ]
    refine wpAnyH_take (i := 27) (oi := ⟨some 66, _, _, _, _, _⟩) (v := ?vt152x27) rfl (by kernel_rfl) (by kernel_rfl) (by kernel_rfl) (fun _ _ _ h => h) (Or.inl ⟨by rfl, ?hyt152x27⟩) (by exact ⟨(cell_of_block (k := 2) Hd.out rfl).1, (cell_of_block (k := 5) Hd.out rfl).1, (cell_of_block (k := 0) Hq.out rfl).1, (cell_of_block (k := 1) Hq.out rfl).1, (cell_of_block (k := 2) Hq.out rfl).1, (cell_of_block (k := 3) Hq.out rfl).1, (cell_of_block (k := 4) Hq.out rfl).1, (cell_of_block (k := 5) Hq.out rfl).1⟩) ?ret152x27
    case hyt152x27 => (intro ww hSw; (try dsimp only at hSw); go_simp; first | done | with_reducible rfl)
    try simp only [Act.put, List.setIfInBounds_toArray, List.set_cons_zero, List.set_cons_succ]
    refine wpAnyH_take (i := 28) (oi := ⟨some 67, _, _, _, _, _⟩) (v := ?vt153x28) rfl (by kernel_rfl) (by kernel_rfl) (by kernel_rfl) (fun _ _ _ h => h) (Or.inl ⟨by rfl, ?hyt153x28⟩) (by exact ⟨(cell_of_block (k := 2) Hd.out rfl).1, (cell_of_block (k := 5) Hd.out rfl).1, (cell_of_block (k := 0) Hq.out rfl).1, (cell_of_block (k := 1) Hq.out rfl).1, (cell_of_block (k := 2) Hq.out rfl).1, (cell_of_block (k := 3) Hq.out rfl).1, (cell_of_block (k := 4) Hq.out rfl).1, (cell_of_block (k := 5) Hq.out rfl).1⟩) ?ret153x28
    case hyt153x28 => (intro ww hSw; (try dsimp only at hSw); go_simp; first | done | with_reducible rfl)
    try simp only [Act.put, List.setIfInBounds_toArray, List.set_cons_zero, List.set_cons_succ]
    refine wpAnyH_take (i := 29) (oi := ⟨some 68, _, _, _, _, _⟩) (v := ?vt154x29) rfl (by kernel_rfl) (by kernel_rfl) (by kernel_rfl) (fun _ _ _ h => h) (Or.inl ⟨by rfl, ?hyt154x29⟩) (by exact ⟨(cell_of_block (k := 2) Hd.out rfl).1, (cell_of_block (k := 5) Hd.out rfl).1, (cell_of_block (k := 0) Hq.out rfl).1, (cell_of_block (k := 1) Hq.out rfl).1, (cell_of_block (k := 2) Hq.out rfl).1, (cell_of_block (k := 3) Hq.out rfl).1, (cell_of_block (k := 4) Hq.out rfl).1, (cell_of_block (k := 5) Hq.out rfl).1⟩) ?ret154x29
    case hyt154x29 => (intro ww hSw; (try dsimp only at hSw); go_simp; first | done | with_reducible rfl)
    try simp only [Act.put, List.setIfInBounds_toArray, List.set_cons_zero, List.set_cons_succ]
    refine wpAnyH_take (i := 30) (oi := ⟨some 69, _, _, _, _, _⟩) (v := ?vt155x30) rfl (by kernel_rfl) (by kernel_rfl) (by kernel_rfl) (fun _ _ _ h => h) (Or.inl ⟨by rfl, ?hyt155x30⟩) (by exact ⟨(cell_of_block (k := 2) Hd.out rfl).1, (cell_of_block (k := 5) Hd.out rfl).1, (cell_of_block (k := 0) Hq.out rfl).1, (cell_of_block (k := 1) Hq.out rfl).1, (cell_of_block (k := 2) Hq.out rfl).1, (cell_of_block (k := 3) Hq.out rfl).1, (cell_of_block (k := 4) Hq.out rfl).1, (cell_of_block (k := 5) Hq.out rfl).1⟩) ?ret155x30
    case hyt155x30 => (intro ww hSw; (try dsimp only at hSw); go_simp; first | done | with_reducible rfl)
    try simp only [Act.put, List.setIfInBounds_toArray, List.set_cons_zero, List.set_cons_succ]
    refine wpAnyH_take (i := 31) (oi := ⟨some 70, _, _, _, _, _⟩) (v := ?vt156x31) rfl (by kernel_rfl) (by kernel_rfl) (by kernel_rfl) (fun _ _ _ h => h) (Or.inl ⟨by rfl, ?hyt156x31⟩) (by exact ⟨(cell_of_block (k := 2) Hd.out rfl).1, (cell_of_block (k := 5) Hd.out rfl).1, (cell_of_block (k := 0) Hq.out rfl).1, (cell_of_block (k := 1) Hq.out rfl).1, (cell_of_block (k := 2) Hq.out rfl).1, (cell_of_block (k := 3) Hq.out rfl).1, (cell_of_block (k := 4) Hq.out rfl).1, (cell_of_block (k := 5) Hq.out rfl).1⟩) ?ret156x31
    case hyt156x31 => (intro ww hSw; (try dsimp only at hSw); go_simp; first | done | with_reducible rfl)
    try simp only [Act.put, List.setIfInBounds_toArray, List.set_cons_zero, List.set_cons_succ]
    refine wpAnyH_take (i := 32) (oi := ⟨some 71, _, _, _, _, _⟩) (v := ?vt157x32) rfl (by kernel_rfl) (by kernel_rfl) (by kernel_rfl) (fun _ _ _ h => h) (Or.inl ⟨by rfl, ?hyt157x32⟩) (by exact ⟨(cell_of_block (k := 2) Hd.out rfl).1, (cell_of_block (k := 5) Hd.out rfl).1, (cell_of_block (k := 0) Hq.out rfl).1, (cell_of_block (k := 1) Hq.out rfl).1, (cell_of_block (k := 2) Hq.out rfl).1, (cell_of_block (k := 3) Hq.out rfl).1, (cell_of_block (k := 4) Hq.out rfl).1, (cell_of_block (k := 5) Hq.out rfl).1⟩) ?ret157x32
    case hyt157x32 => (intro ww hSw; (try dsimp only at hSw); go_simp; first | done | with_reducible rfl)
    try simp only [Act.put, List.setIfInBounds_toArray, List.set_cons_zero, List.set_cons_succ]
    refine wpAnyH_take (i := 33) (oi := ⟨some 72, _, _, _, _, _⟩) (v := ?vt158x33) rfl (by kernel_rfl) (by kernel_rfl) (by kernel_rfl) (fun _ _ _ h => h) (Or.inl ⟨by rfl, ?hyt158x33⟩) (by exact ⟨(cell_of_block (k := 2) Hd.out rfl).1, (cell_of_block (k := 5) Hd.out rfl).1, (cell_of_block (k := 0) Hq.out rfl).1, (cell_of_block (k := 1) Hq.out rfl).1, (cell_of_block (k := 2) Hq.out rfl).1, (cell_of_block (k := 3) Hq.out rfl).1, (cell_of_block (k := 4) Hq.out rfl).1, (cell_of_block (k := 5) Hq.out rfl).1⟩) ?ret158x33
    case hyt158x33 => (intro ww hSw; (try dsimp only at hSw); go_simp; first | done | with_reducible rfl)
    try simp only [Act.put, List.setIfInBounds_toArray, List.set_cons_zero, List.set_cons_succ]
    refine wpAnyH_take (i := 34) (oi := ⟨some 73, _, _, _, _, _⟩) (v := ?vt159x34) rfl (by kernel_rfl) (by kernel_rfl) (by kernel_rfl) (fun _ _ _ h => h) (Or.inl ⟨by rfl, ?hyt159x34⟩) (by exact ⟨(cell_of_block (k := 2) Hd.out rfl).1, (cell_of_block (k := 5) Hd.out rfl).1, (cell_of_block (k := 0) Hq.out rfl).1, (cell_of_block (k := 1) Hq.out rfl).1, (cell_of_block (k := 2) Hq.out rfl).1, (cell_of_block (k := 3) Hq.out rfl).1, (cell_of_block (k := 4) Hq.out rfl).1, (cell_of_block (k := 5) Hq.out rfl).1⟩) ?ret159x34
    case hyt159x34 => (intro ww hSw; (try dsimp only at hSw); go_simp; first | done | with_reducible rfl)
    try simp only [Act.put, List.setIfInBounds_toArray, List.set_cons_zero, List.set_cons_succ]
    refine wpAnyH_take (i := 35) (oi := ⟨some 74, _, _, _, _, _⟩) (v := ?vt160x35) rfl (by kernel_rfl) (by kernel_rfl) (by kernel_rfl) (fun _ _ _ h => h) (Or.inl ⟨by rfl, ?hyt160x35⟩) (by exact ⟨(cell_of_block (k := 2) Hd.out rfl).1, (cell_of_block (k := 5) Hd.out rfl).1, (cell_of_block (k := 0) Hq.out rfl).1, (cell_of_block (k := 1) Hq.out rfl).1, (cell_of_block (k := 2) Hq.out rfl).1, (cell_of_block (k := 3) Hq.out rfl).1, (cell_of_block (k := 4) Hq.out rfl).1, (cell_of_block (k := 5) Hq.out rfl).1⟩) ?ret160x35
    case hyt160x35 => (intro ww hSw; (try dsimp only at hSw); go_simp; first | done | with_reducible rfl)
    try simp only [Act.put, List.setIfInBounds_toArray, List.set_cons_zero, List.set_cons_succ]
    refine wpAnyH_take (i := 36) (oi := ⟨some 75, _, _, _, _, _⟩) (v := ?vt161x36) rfl (by kernel_rfl) (by kernel_rfl) (by kernel_rfl) (fun _ _ _ h => h) (Or.inl ⟨by rfl, ?hyt161x36⟩) (by exact ⟨(cell_of_block (k := 2) Hd.out rfl).1, (cell_of_block (k := 5) Hd.out rfl).1, (cell_of_block (k := 0) Hq.out rfl).1, (cell_of_block (k := 1) Hq.out rfl).1, (cell_of_block (k := 2) Hq.out rfl).1, (cell_of_block (k := 3) Hq.out rfl).1, (cell_of_block (k := 4) Hq.out rfl).1, (cell_of_block (k := 5) Hq.out rfl).1⟩) ?ret161x36
    case hyt161x36 => (intro ww hSw; (try dsimp only at hSw); go_simp; first | done | with_reducible rfl)
    try simp only [Act.put, List.setIfInBounds_toArray, List.set_cons_zero, List.set_cons_succ]
    refine wpAnyH_take (i := 37) (oi := ⟨some 76, _, _, _, _, _⟩) (v := ?vt162x37) rfl (by kernel_rfl) (by kernel_rfl) (by kernel_rfl) (fun _ _ _ h => h) (Or.inl ⟨by rfl, ?hyt162x37⟩) (by exact ⟨(cell_of_block (k := 2) Hd.out rfl).1, (cell_of_block (k := 5) Hd.out rfl).1, (cell_of_block (k := 0) Hq.out rfl).1, (cell_of_block (k := 1) Hq.out rfl).1, (cell_of_block (k := 2) Hq.out rfl).1, (cell_of_block (k := 3) Hq.out rfl).1, (cell_of_block (k := 4) Hq.out rfl).1, (cell_of_block (k := 5) Hq.out rfl).1⟩) ?ret162x37
    case hyt162x37 => (intro ww hSw; (try dsimp only at hSw); go_simp; first | done | with_reducible rfl)
    try simp only [Act.put, List.setIfInBounds_toArray, List.set_cons_zero, List.set_cons_succ]
    refine wpAnyH_take (i := 38) (oi := ⟨some 77, _, _, _, _, _⟩) (v := ?vt163x38) rfl (by kernel_rfl) (by kernel_rfl) (by kernel_rfl) (fun _ _ _ h => h) (Or.inl ⟨by rfl, ?hyt163x38⟩) (by exact ⟨(cell_of_block (k := 2) Hd.out rfl).1, (cell_of_block (k := 5) Hd.out rfl).1, (cell_of_block (k := 0) Hq.out rfl).1, (cell_of_block (k := 1) Hq.out rfl).1, (cell_of_block (k := 2) Hq.out rfl).1, (cell_of_block (k := 3) Hq.out rfl).1, (cell_of_block (k := 4) Hq.out rfl).1, (cell_of_block (k := 5) Hq.out rfl).1⟩) ?ret163x38
    case hyt163x38 => (intro ww hSw; (try dsimp only at hSw); go_simp; first | done | with_reducible rfl)
    try simp only [Act.put, List.setIfInBounds_toArray, List.set_cons_zero, List.set_cons_succ]
    refine wpAnyH_take (i := 39) (oi := ⟨some 78, _, _, _, _, _⟩) (v := ?vt164x39) rfl (by kernel_rfl) (by kernel_rfl) (by kernel_rfl) (fun _ _ _ h => h) (Or.inl ⟨by rfl, ?hyt164x39⟩) (by exact ⟨(cell_of_block (k := 2) Hd.out rfl).1, (cell_of_block (k := 5) Hd.out rfl).1, (cell_of_block (k := 0) Hq.out rfl).1, (cell_of_block (k := 1) Hq.out rfl).1, (cell_of_block (k := 2) Hq.out rfl).1, (cell_of_block (k := 3) Hq.out rfl).1, (cell_of_block (k := 4) Hq.out rfl).1, (cell_of_block (k := 5) Hq.out rfl).1⟩) ?ret164x39
    case hyt164x39 => (intro ww hSw; (try dsimp only at hSw); go_simp; first | done | with_reducible rfl)
    try simp only [Act.put, List.setIfInBounds_toArray, List.set_cons_zero, List.set_cons_succ]
    refine wpAnyH_take (i := 40) (oi := ⟨some 79, _, _, _, _, _⟩) (v := ?vt165x40) rfl (by kernel_rfl) (by kernel_rfl) (by kernel_rfl) (fun _ _ _ h => h) (Or.inl ⟨by rfl, ?hyt165x40⟩) (by exact ⟨(cell_of_block (k := 2) Hd.out rfl).1, (cell_of_block (k := 5) Hd.out rfl).1, (cell_of_block (k := 0) Hq.out rfl).1, (cell_of_block (k := 1) Hq.out rfl).1, (cell_of_block (k := 2) Hq.out rfl).1, (cell_of_block (k := 3) Hq.out rfl).1, (cell_of_block (k := 4) Hq.out rfl).1, (cell_of_block (k := 5) Hq.out rfl).1⟩) ?ret165x40
    case hyt165x40 => (intro ww hSw; (try dsimp only at hSw); go_simp; first | done | with_reducible rfl)
    try simp only [Act.put, List.setIfInBounds_toArray, List.set_cons_zero, List.set_cons_succ]
    refine wpAnyH_take (i := 41) (oi := ⟨some 80, _, _, _, _, _⟩) (v := ?vt166x41) rfl (by kernel_rfl) (by kernel_rfl) (by kernel_rfl) (fun _ _ _ h => h) (Or.inl ⟨by rfl, ?hyt166x41⟩) (by exact ⟨(cell_of_block (k := 2) Hd.out rfl).1, (cell_of_block (k := 5) Hd.out rfl).1, (cell_of_block (k := 0) Hq.out rfl).1, (cell_of_block (k := 1) Hq.out rfl).1, (cell_of_block (k := 2) Hq.out rfl).1, (cell_of_block (k := 3) Hq.out rfl).1, (cell_of_block (k := 4) Hq.out rfl).1, (cell_of_block (k := 5) Hq.out rfl).1⟩) ?ret166x41
    case hyt166x41 => (intro ww hSw; (try dsimp only at hSw); go_simp; first | done | with_reducible rfl)
    try simp only [Act.put, List.setIfInBounds_toArray, List.set_cons_zero, List.set_cons_succ]
    refine wpAnyH_take (i := 42) (oi := ⟨some 81, _, _, _, _, _⟩) (v := ?vt167x42) rfl (by kernel_rfl) (by kernel_rfl) (by kernel_rfl) (fun _ _ _ h => h) (Or.inl ⟨by rfl, ?hyt167x42⟩) (by exact ⟨(cell_of_block (k := 2) Hd.out rfl).1, (cell_of_block (k := 5) Hd.out rfl).1, (cell_of_block (k := 0) Hq.out rfl).1, (cell_of_block (k := 1) Hq.out rfl).1, (cell_of_block (k := 2) Hq.out rfl).1, (cell_of_block (k := 3) Hq.out rfl).1, (cell_of_block (k := 4) Hq.out rfl).1, (cell_of_block (k := 5) Hq.out rfl).1⟩) ?ret167x42
    case hyt167x42 => (intro ww hSw; (try dsimp only at hSw); go_simp; first | done | with_reducible rfl)
    try simp only [Act.put, List.setIfInBounds_toArray, List.set_cons_zero, List.set_cons_succ]
    refine wpAnyH_take (i := 43) (oi := ⟨some 82, _, _, _, _, _⟩) (v := ?vt168x43) rfl (by kernel_rfl) (by kernel_rfl) (by kernel_rfl) (fun _ _ _ h => h) (Or.inl ⟨by rfl, ?hyt168x43⟩) (by exact ⟨(cell_of_block (k := 2) Hd.out rfl).1, (cell_of_block (k := 5) Hd.out rfl).1, (cell_of_block (k := 0) Hq.out rfl).1, (cell_of_block (k := 1) Hq.out rfl).1, (cell_of_block (k := 2) Hq.out rfl).1, (cell_of_block (k := 3) Hq.out rfl).1, (cell_of_block (k := 4) Hq.out rfl).1, (cell_of_block (k := 5) Hq.out rfl).1⟩) ?ret168x43
    case hyt168x43 => (intro ww hSw; (try dsimp only at hSw); go_simp; first | done | with_reducible rfl)
    try simp only [Act.put, List.setIfInBounds_toArray, List.set_cons_zero, List.set_cons_succ]
    refine wpAnyH_take (i := 44) (oi := ⟨some 83, _, _, _, _, _⟩) (v := ?vt169x44) rfl (by kernel_rfl) (by kernel_rfl) (by kernel_rfl) (fun _ _ _ h => h) (Or.inl ⟨by rfl, ?hyt169x44⟩) (by exact ⟨(cell_of_block (k := 2) Hd.out rfl).1, (cell_of_block (k := 5) Hd.out rfl).1, (cell_of_block (k := 0) Hq.out rfl).1, (cell_of_block (k := 1) Hq.out rfl).1, (cell_of_block (k := 2) Hq.out rfl).1, (cell_of_block (k := 3) Hq.out rfl).1, (cell_of_block (k := 4) Hq.out rfl).1, (cell_of_block (k := 5) Hq.out rfl).1⟩) ?ret169x44
    case hyt169x44 => (intro ww hSw; (try dsimp only at hSw); go_simp; first | done | with_reducible rfl)
    try simp only [Act.put, List.setIfInBounds_toArray, List.set_cons_zero, List.set_cons_succ]
    refine wpAnyH_take (i := 45) (oi := ⟨some 84, _, _, _, _, _⟩) (v := ?vt170x45) rfl (by kernel_rfl) (by kernel_rfl) (by kernel_rfl) (fun _ _ _ h => h) (Or.inl ⟨by rfl, ?hyt170x45⟩) (by exact ⟨(cell_of_block (k := 2) Hd.out rfl).1, (cell_of_block (k := 5) Hd.out rfl).1, (cell_of_block (k := 0) Hq.out rfl).1, (cell_of_block (k := 1) Hq.out rfl).1, (cell_of_block (k := 2) Hq.out rfl).1, (cell_of_block (k := 3) Hq.out rfl).1, (cell_of_block (k := 4) Hq.out rfl).1, (cell_of_block (k := 5) Hq.out rfl).1⟩) ?ret170x45
    case hyt170x45 => (intro ww hSw; (try dsimp only at hSw); go_simp; first | done | with_reducible rfl)
    try simp only [Act.put, List.setIfInBounds_toArray, List.set_cons_zero, List.set_cons_succ]
    refine wpAnyH_take (i := 46) (oi := ⟨some 85, _, _, _, _, _⟩) (v := ?vt171x46) rfl (by kernel_rfl) (by kernel_rfl) (by kernel_rfl) (fun _ _ _ h => h) (Or.inl ⟨by rfl, ?hyt171x46⟩) (by exact ⟨(cell_of_block (k := 2) Hd.out rfl).1, (cell_of_block (k := 5) Hd.out rfl).1, (cell_of_block (k := 0) Hq.out rfl).1, (cell_of_block (k := 1) Hq.out rfl).1, (cell_of_block (k := 2) Hq.out rfl).1, (cell_of_block (k := 3) Hq.out rfl).1, (cell_of_block (k := 4) Hq.out rfl).1, (cell_of_block (k := 5) Hq.out rfl).1⟩) ?ret171x46
    case hyt171x46 => (intro ww hSw; (try dsimp only at hSw); go_simp; first | done | with_reducible rfl)
    try simp only [Act.put, List.setIfInBounds_toArray, List.set_cons_zero, List.set_cons_succ]
    refine wpAnyH_take (i := 47) (oi := ⟨some 86, _, _, _, _, _⟩) (v := ?vt172x47) rfl (by kernel_rfl) (by kernel_rfl) (by kernel_rfl) (fun _ _ _ h => h) (Or.inl ⟨by rfl, ?hyt172x47⟩) (by exact ⟨(cell_of_block (k := 2) Hd.out rfl).1, (cell_of_block (k := 5) Hd.out rfl).1, (cell_of_block (k := 0) Hq.out rfl).1, (cell_of_block (k := 1) Hq.out rfl).1, (cell_of_block (k := 2) Hq.out rfl).1, (cell_of_block (k := 3) Hq.out rfl).1, (cell_of_block (k := 4) Hq.out rfl).1, (cell_of_block (k := 5) Hq.out rfl).1⟩) ?ret172x47
    case hyt172x47 => (intro ww hSw; (try dsimp only at hSw); go_simp; first | done | with_reducible rfl)
    try simp only [Act.put, List.setIfInBounds_toArray, List.set_cons_zero, List.set_cons_succ]
    refine wpAnyH_take (i := 48) (oi := ⟨some 87, _, _, _, _, _⟩) (v := ?vt173x48) rfl (by kernel_rfl) (by kernel_rfl) (by kernel_rfl) (fun _ _ _ h => h) (Or.inl ⟨by rfl, ?hyt173x48⟩) (by exact ⟨(cell_of_block (k := 2) Hd.out rfl).1, (cell_of_block (k := 5) Hd.out rfl).1, (cell_of_block (k := 0) Hq.out rfl).1, (cell_of_block (k := 1) Hq.out rfl).1, (cell_of_block (k := 2) Hq.out rfl).1, (cell_of_block (k := 3) Hq.out rfl).1, (cell_of_block (k := 4) Hq.out rfl).1, (cell_of_block (k := 5) Hq.out rfl).1⟩) ?ret173x48
    case hyt173x48 => (intro ww hSw; (try dsimp only at hSw); go_simp; first | done | with_reducible rfl)
    try simp only [Act.put, List.setIfInBounds_toArray, List.set_cons_zero, List.set_cons_succ]
    refine wpAnyH_take (i := 49) (oi := ⟨some 88, _, _, _, _, _⟩) (v := ?vt174x49) rfl (by kernel_rfl) (by kernel_rfl) (by kernel_rfl) (fun _ _ _ h => h) (Or.inl ⟨by rfl, ?hyt174x49⟩) (by exact ⟨(cell_of_block (k := 2) Hd.out rfl).1, (cell_of_block (k := 5) Hd.out rfl).1, (cell_of_block (k := 0) Hq.out rfl).1, (cell_of_block (k := 1) Hq.out rfl).1, (cell_of_block (k := 2) Hq.out rfl).1, (cell_of_block (k := 3) Hq.out rfl).1, (cell_of_block (k := 4) Hq.out rfl).1, (cell_of_block (k := 5) Hq.out rfl).1⟩) ?ret174x49
    case hyt174x49 => (intro ww hSw; (try dsimp only at hSw); go_simp; first | done | with_reducible rfl)
    try simp only [Act.put, List.setIfInBounds_toArray, List.set_cons_zero, List.set_cons_succ]
    refine wpAnyH_take (i := 50) (oi := ⟨some 89, _, _, _, _, _⟩) (v := ?vt175x50) rfl (by kernel_rfl) (by kernel_rfl) (by kernel_rfl) (fun _ _ _ h => h) (Or.inl ⟨by rfl, ?hyt175x50⟩) (by exact ⟨(cell_of_block (k := 2) Hd.out rfl).1, (cell_of_block (k := 5) Hd.out rfl).1, (cell_of_block (k := 0) Hq.out rfl).1, (cell_of_block (k := 1) Hq.out rfl).1, (cell_of_block (k := 2) Hq.out rfl).1, (cell_of_block (k := 3) Hq.out rfl).1, (cell_of_block (k := 4) Hq.out rfl).1, (cell_of_block (k := 5) Hq.out rfl).1⟩) ?ret175x50
    case hyt175x50 => (intro ww hSw; (try dsimp only at hSw); go_simp; first | done | with_reducible rfl)
    try simp only [Act.put, List.setIfInBounds_toArray, List.set_cons_zero, List.set_cons_succ]
    refine wpAnyH_take (i := 51) (oi := ⟨some 90, _, _, _, _, _⟩) (v := ?vt176x51) rfl (by kernel_rfl) (by kernel_rfl) (by kernel_rfl) (fun _ _ _ h => h) (Or.inl ⟨by rfl, ?hyt176x51⟩) (by exact ⟨(cell_of_block (k := 2) Hd.out rfl).1, (cell_of_block (k := 5) Hd.out rfl).1, (cell_of_block (k := 0) Hq.out rfl).1, (cell_of_block (k := 1) Hq.out rfl).1, (cell_of_block (k := 2) Hq.out rfl).1, (cell_of_block (k := 3) Hq.out rfl).1, (cell_of_block (k := 4) Hq.out rfl).1, (cell_of_block (k := 5) Hq.out rfl).1⟩) ?ret176x51
    case hyt176x51 => (intro ww hSw; (try dsimp only at hSw); go_simp; first | done | with_reducible rfl)
    try simp only [Act.put, List.setIfInBounds_toArray, List.set_cons_zero, List.set_cons_succ]
    refine wpAnyH_take (i := 52) (oi := ⟨some 91, _, _, _, _, _⟩) (v := ?vt177x52) rfl (by kernel_rfl) (by kernel_rfl) (by kernel_rfl) (fun _ _ _ h => h) (Or.inl ⟨by rfl, ?hyt177x52⟩) (by exact ⟨(cell_of_block (k := 2) Hd.out rfl).1, (cell_of_block (k := 5) Hd.out rfl).1, (cell_of_block (k := 0) Hq.out rfl).1, (cell_of_block (k := 1) Hq.out rfl).1, (cell_of_block (k := 2) Hq.out rfl).1, (cell_of_block (k := 3) Hq.out rfl).1, (cell_of_block (k := 4) Hq.out rfl).1, (cell_of_block (k := 5) Hq.out rfl).1⟩) ?ret177x52
    case hyt177x52 => (intro ww hSw; (try dsimp only at hSw); go_simp; first | done | with_reducible rfl)
    try simp only [Act.put, List.setIfInBounds_toArray, List.set_cons_zero, List.set_cons_succ]
    refine wpAnyH_take (i := 53) (oi := ⟨some 92, _, _, _, _, _⟩) (v := ?vt178x53) rfl (by kernel_rfl) (by kernel_rfl) (by kernel_rfl) (fun _ _ _ h => h) (Or.inl ⟨by rfl, ?hyt178x53⟩) (by exact ⟨(cell_of_block (k := 2) Hd.out rfl).1, (cell_of_block (k := 5) Hd.out rfl).1, (cell_of_block (k := 0) Hq.out rfl).1, (cell_of_block (k := 1) Hq.out rfl).1, (cell_of_block (k := 2) Hq.out rfl).1, (cell_of_block (k := 3) Hq.out rfl).1, (cell_of_block (k := 4) Hq.out rfl).1, (cell_of_block (k := 5) Hq.out rfl).1⟩) ?ret178x53
    case hyt178x53 => (intro ww hSw; (try dsimp only at hSw); go_simp; first | done | with_reducible rfl)
    try simp only [Act.put, List.setIfInBounds_toArray, List.set_cons_zero, List.set_cons_succ]
    refine wpAnyH_take (i := 54) (oi := ⟨some 93, _, _, _, _, _⟩) (v := ?vt179x54) rfl (by kernel_rfl) (by kernel_rfl) (by kernel_rfl) (fun _ _ _ h => h) (Or.inl ⟨by rfl, ?hyt179x54⟩) (by exact ⟨(cell_of_block (k := 2) Hd.out rfl).1, (cell_of_block (k := 5) Hd.out rfl).1, (cell_of_block (k := 0) Hq.out rfl).1, (cell_of_block (k := 1) Hq.out rfl).1, (cell_of_block (k := 2) Hq.out rfl).1, (cell_of_block (k := 3) Hq.out rfl).1, (cell_of_block (k := 4) Hq.out rfl).1, (cell_of_block (k := 5) Hq.out rfl).1⟩) ?ret179x54
    case hyt179x54 => (intro ww hSw; (try dsimp only at hSw); go_simp; first | done | with_reducible rfl)
    try simp only [Act.put, List.setIfInBounds_toArray, List.set_cons_zero, List.set_cons_succ]
    refine wpAnyH_take (i := 55) (oi := ⟨some 94, _, _, _, _, _⟩) (v := ?vt180x55) rfl (by kernel_rfl) (by kernel_rfl) (by kernel_rfl) (fun _ _ _ h => h) (Or.inl ⟨by rfl, ?hyt180x55⟩) (by exact ⟨(cell_of_block (k := 2) Hd.out rfl).1, (cell_of_block (k := 5) Hd.out rfl).1, (cell_of_block (k := 0) Hq.out rfl).1, (cell_of_block (k := 1) Hq.out rfl).1, (cell_of_block (k := 2) Hq.out rfl).1, (cell_of_block (k := 3) Hq.out rfl).1, (cell_of_block (k := 4) Hq.out rfl).1, (cell_of_block (k := 5) Hq.out rfl).1⟩) ?ret180x55
    case hyt180x55 => (intro ww hSw; (try dsimp only at hSw); go_simp; first | done | with_reducible rfl)
    try simp only [Act.put, List.setIfInBounds_toArray, List.set_cons_zero, List.set_cons_succ]
    refine wpAnyH_take (i := 56) (oi := ⟨some 95, _, _, _, _, _⟩) (v := ?vt181x56) rfl (by kernel_rfl) (by kernel_rfl) (by kernel_rfl) (fun _ _ _ h => h) (Or.inl ⟨by rfl, ?hyt181x56⟩) (by exact ⟨(cell_of_block (k := 2) Hd.out rfl).1, (cell_of_block (k := 5) Hd.out rfl).1, (cell_of_block (k := 0) Hq.out rfl).1, (cell_of_block (k := 1) Hq.out rfl).1, (cell_of_block (k := 2) Hq.out rfl).1, (cell_of_block (k := 3) Hq.out rfl).1, (cell_of_block (k := 4) Hq.out rfl).1, (cell_of_block (k := 5) Hq.out rfl).1⟩) ?ret181x56
    case hyt181x56 => (intro ww hSw; (try dsimp only at hSw); go_simp; first | done | with_reducible rfl)
    try simp only [Act.put, List.setIfInBounds_toArray, List.set_cons_zero, List.set_cons_succ]
    refine wpAnyH_take (i := 57) (oi := ⟨some 96, _, _, _, _, _⟩) (v := ?vt182x57) rfl (by kernel_rfl) (by kernel_rfl) (by kernel_rfl) (fun _ _ _ h => h) (Or.inl ⟨by rfl, ?hyt182x57⟩) (by exact ⟨(cell_of_block (k := 2) Hd.out rfl).1, (cell_of_block (k := 5) Hd.out rfl).1, (cell_of_block (k := 0) Hq.out rfl).1, (cell_of_block (k := 1) Hq.out rfl).1, (cell_of_block (k := 2) Hq.out rfl).1, (cell_of_block (k := 3) Hq.out rfl).1, (cell_of_block (k := 4) Hq.out rfl).1, (cell_of_block (k := 5) Hq.out rfl).1⟩) ?ret182x57
    case hyt182x57 => (intro ww hSw; (try dsimp only at hSw); go_simp; first | done | with_reducible rfl)
    try simp only [Act.put, List.setIfInBounds_toArray, List.set_cons_zero, List.set_cons_succ]
    refine wpAnyH_take (i := 58) (oi := ⟨some 97, _, _, _, _, _⟩) (v := ?vt183x58) rfl (by kernel_rfl) (by kernel_rfl) (by kernel_rfl) (fun _ _ _ h => h) (Or.inl ⟨by rfl, ?hyt183x58⟩) (by exact ⟨(cell_of_block (k := 2) Hd.out rfl).1, (cell_of_block (k := 5) Hd.out rfl).1, (cell_of_block (k := 0) Hq.out rfl).1, (cell_of_block (k := 1) Hq.out rfl).1, (cell_of_block (k := 2) Hq.out rfl).1, (cell_of_block (k := 3) Hq.out rfl).1, (cell_of_block (k := 4) Hq.out rfl).1, (cell_of_block (k := 5) Hq.out rfl).1⟩) ?ret183x58
    case hyt183x58 => (intro ww hSw; (try dsimp only at hSw); go_simp; first | done | with_reducible rfl)
    try simp only [Act.put, List.setIfInBounds_toArray, List.set_cons_zero, List.set_cons_succ]
    refine wpAnyH_take (i := 59) (oi := ⟨some 98, _, _, _, _, _⟩) (v := ?vt184x59) rfl (by kernel_rfl) (by kernel_rfl) (by kernel_rfl) (fun _ _ _ h => h) (Or.inl ⟨by rfl, ?hyt184x59⟩) (by exact ⟨(cell_of_block (k := 2) Hd.out rfl).1, (cell_of_block (k := 5) Hd.out rfl).1, (cell_of_block (k := 0) Hq.out rfl).1, (cell_of_block (k := 1) Hq.out rfl).1, (cell_of_block (k := 2) Hq.out rfl).1, (cell_of_block (k := 3) Hq.out rfl).1, (cell_of_block (k := 4) Hq.out rfl).1, (cell_of_block (k := 5) Hq.out rfl).1⟩) ?ret184x59
    case hyt184x59 => (intro ww hSw; (try dsimp only at hSw); go_simp; first | done | with_reducible rfl)
    try simp only [Act.put, List.setIfInBounds_toArray, List.set_cons_zero, List.set_cons_succ]
    refine wpAnyH_take (i := 60) (oi := ⟨some 99, _, _, _, _, _⟩) (v := ?vt185x60) rfl (by kernel_rfl) (by kernel_rfl) (by kernel_rfl) (fun _ _ _ h => h) (Or.inl ⟨by rfl, ?hyt185x60⟩) (by exact ⟨(cell_of_block (k := 2) Hd.out rfl).1, (cell_of_block (k := 5) Hd.out rfl).1, (cell_of_block (k := 0) Hq.out rfl).1, (cell_of_block (k := 1) Hq.out rfl).1, (cell_of_block (k := 2) Hq.out rfl).1, (cell_of_block (k := 3) Hq.out rfl).1, (cell_of_block (k := 4) Hq.out rfl).1, (cell_of_block (k := 5) Hq.out rfl).1⟩) ?ret185x60
    case hyt185x60 => (intro ww hSw; (try dsimp only at hSw); go_simp; first | done | with_reducible rfl)
    try simp only [Act.put, List.setIfInBounds_toArray, List.set_cons_zero, List.set_cons_succ]
    refine wpAnyH_take (i := 61) (oi := ⟨some 100, _, _, _, _, _⟩) (v := ?vt186x61) rfl (by kernel_rfl) (by kernel_rfl) (by kernel_rfl) (fun _ _ _ h => h) (Or.inl ⟨by rfl, ?hyt186x61⟩) (by exact ⟨(cell_of_block (k := 2) Hd.out rfl).1, (cell_of_block (k := 5) Hd.out rfl).1, (cell_of_block (k := 0) Hq.out rfl).1, (cell_of_block (k := 1) Hq.out rfl).1, (cell_of_block (k := 2) Hq.out rfl).1, (cell_of_block (k := 3) Hq.out rfl).1, (cell_of_block (k := 4) Hq.out rfl).1, (cell_of_block (k := 5) Hq.out rfl).1⟩) ?ret186x61
    case hyt186x61 => (intro ww hSw; (try dsimp only at hSw); go_simp; first | done | with_reducible rfl)
    try simp only [Act.put, List.setIfInBounds_toArray, List.set_cons_zero, List.set_cons_succ]
    refine wpAnyH_take (i := 62) (oi := ⟨some 101, _, _, _, _, _⟩) (v := ?vt187x62) rfl (by kernel_rfl) (by kernel_rfl) (by kernel_rfl) (fun _ _ _ h => h) (Or.inl ⟨by rfl, ?hyt187x62⟩) (by exact ⟨(cell_of_block (k := 2) Hd.out rfl).1, (cell_of_block (k := 5) Hd.out rfl).1, (cell_of_block (k := 0) Hq.out rfl).1, (cell_of_block (k := 1) Hq.out rfl).1, (cell_of_block (k := 2) Hq.out rfl).1, (cell_of_block (k := 3) Hq.out rfl).1, (cell_of_block (k := 4) Hq.out rfl).1, (cell_of_block (k := 5) Hq.out rfl).1⟩) ?ret187x62
    case hyt187x62 => (intro ww hSw; (try dsimp only at hSw); go_simp; first | done | with_reducible rfl)
    try simp only [Act.put, List.setIfInBounds_toArray, List.set_cons_zero, List.set_cons_succ]
    refine wpAnyH_take (i := 63) (oi := ⟨some 2, _, _, _, _, _⟩) (v := ?vt188x63) rfl (by kernel_rfl) (by kernel_rfl) (by kernel_rfl) (fun _ _ _ h => h) (Or.inl ⟨by rfl, ?hyt188x63⟩) (by exact ⟨(cell_of_block (k := 2) Hd.out rfl).1, (cell_of_block (k := 5) Hd.out rfl).1, (cell_of_block (k := 0) Hq.out rfl).1, (cell_of_block (k := 1) Hq.out rfl).1, (cell_of_block (k := 2) Hq.out rfl).1, (cell_of_block (k := 3) Hq.out rfl).1, (cell_of_block (k := 4) Hq.out rfl).1, (cell_of_block (k := 5) Hq.out rfl).1⟩) ?ret188x63
    case hyt188x63 => (intro ww hSw; (try dsimp only at hSw); go_simp; first | done | with_reducible rfl)
    try simp only [Act.put, List.setIfInBounds_toArray, List.set_cons_zero, List.set_cons_succ]
    refine wpAnyH_done (by kernel_rfl) ?_ _
    go_wp2_with fail
    go_ret
    exact ⟨rfl, HB9⟩
end Go.Proofs.Ythdggmigjddneaa.Dn
