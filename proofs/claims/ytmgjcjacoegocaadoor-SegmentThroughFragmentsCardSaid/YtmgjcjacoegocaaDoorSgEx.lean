/-
  The examples of chapter 11 hold.
-/
import Derived.Test.YtmgjcjacoegocaaDoorSgEx0
import Derived.Test.YtmgjcjacoegocaaDoorSgSame2
namespace Go.Proofs.YtmgjcjacoegocaaDoor.Sg
set_option maxRecDepth 100000
open Go.RowKit Go.Proofs.YtmgjcjacoegocaaDoor.Wire

theorem bks_blk {W : World} {g : Nat} (h : W.heap[g]? = some (.cells #[.int .i64 9, .int .i64 12, .int .i64 20, .int .i64 25] 73 (0, 0))) : Bks W (some ⟨g, 0, none⟩) 2 [(9, 12), (20, 25)] := ⟨rfl, fun _ => ⟨g, rfl, _, h, rfl⟩⟩
theorem valSeg (x : Seg) (A : Option Addr) (c : Nat) (W : World) (b : Bool) (h : vldB x.fp x.tp x.sq x.ack x.syn x.fin x.rst x.ha x.win x.mss x.sacks x.bl x.s.size = b) (hn : x.bl.length ≤ 9223372036854775807) (hb : Bks W A x.bl.length x.bl) :
    Calls Tryd.prog 27 #[x.val A c] W fun e w' => e = .returned (.bool b) ∧ Below W.heap.size W w' := by
  subst h
  exact valid_any x.fp x.tp x.sq x.ack x.syn x.fin x.rst x.ha x.win x.mss x.sacks A x.bl.length c x.bl x.s W hn hb
set_option maxRecDepth 100000 in
set_option maxHeartbeats 4000000 in
theorem examples_any (w : World) : Calls Tryd.prog 5 #[] w fun e w' => e = .returned (.bool true) ∧ Below w.heap.size w w' := by
  have HEa : Hid (∀ w, Calls Tryd.prog 9 #[.int .i64 1, .int .i64 2, .agg #[.int .i64 1, .int .i64 2, .int .i64 5, .int .i64 0, .bool true, .bool false, .bool false, .bool false, .int .i64 0, .int .i64 100, .bool false, .slice none 0 0, .string ⟨#[]⟩]] w fun e w' => e = .returned (.tuple #[.string ⟨(segA.enc 1 2).toArray⟩, .int .i64 0]) ∧ Below w.heap.size w w') := Lib.hid fun w => enc_ok 1 2 segA none 0 w (by decide) (by decide) segA_ok (bks_nil _ _)
  have HEb : Hid (∀ W, Bks W (some ⟨w.heap.size + 1, 0, none⟩) 2 [(9, 12), (20, 25)] → Calls Tryd.prog 9 #[.int .i64 1, .int .i64 2, .agg #[.int .i64 1, .int .i64 2, .int .i64 0, .int .i64 7, .bool false, .bool false, .bool false, .bool true, .int .i64 0, .int .i64 0, .bool false, .slice (some ⟨w.heap.size + 1, 0, none⟩) 2 2, .string ⟨#[97, 98, 99]⟩]] W fun e w' => e = .returned (.tuple #[.string ⟨(segB.enc 1 2).toArray⟩, .int .i64 0]) ∧ Below W.heap.size W w') := Lib.hid fun W hb => enc_ok 1 2 segB _ 2 W (by decide) (by decide) segB_ok hb
  have HDb : Hid (∀ w, Calls Tryd.prog 11 #[.int .i64 1, .int .i64 2, .string ⟨(segB.enc 1 2).toArray⟩] w fun e w' => (∃ (A : Option Addr) (c : Nat), e = .returned (.tuple #[.agg #[.int .i64 1, .int .i64 2, .int .i64 0, .int .i64 7, .bool false, .bool false, .bool false, .bool true, .int .i64 0, .int .i64 0, .bool false, .slice A 2 c, .string ⟨#[97, 98, 99]⟩], .int .i64 0]) ∧ Bks w' A 2 [(9, 12), (20, 25)]) ∧ Below w.heap.size w w') := Lib.hid fun w => by
    refine (Dec_yes 1 2 ⟨(segB.enc 1 2).toArray⟩ w (by rw [sz, encB_len]; omega) (by decide) (by decide) (enc_decOk 1 2 segB segB_ok)).mono ?_
    rintro e w' ⟨A, c, rfl, hb, hB⟩
    rw [(dec_enc 1 2 segB segB_ok).1] at hb ⊢
    exact ⟨⟨A, c, rfl, hb⟩, hB⟩
  have HDx : Hid (∀ w, Calls Tryd.prog 11 #[.int .i64 1, .int .i64 2, .string ⟨#[120]⟩] w fun e w' => e = .returned (.tuple #[.agg #[.int .i64 0, .int .i64 0, .int .i64 0, .int .i64 0, .bool false, .bool false, .bool false, .bool false, .int .i64 0, .int .i64 0, .bool false, .slice none 0 0, .string ⟨#[]⟩], .int .i64 110]) ∧ Below w.heap.size w w') := Lib.hid fun w => Dec_no 1 2 _ w (by decide) (by decide) (by decide) (short_dec 1 2)
  have HEn : Hid (∀ w, Calls Tryd.prog 9 #[.int .i64 (-1), .int .i64 2, .agg #[.int .i64 1, .int .i64 2, .int .i64 5, .int .i64 0, .bool true, .bool false, .bool false, .bool false, .int .i64 0, .int .i64 100, .bool false, .slice none 0 0, .string ⟨#[]⟩]] w fun e w' => e = .returned (.tuple #[.string ⟨#[]⟩, .int .i64 30]) ∧ Below w.heap.size w w') := Lib.hid fun w => Encode_noaddr (-1) 2 _ _ _ _ _ _ _ _ _ _ _ _ _ _ _ w (by decide)
  have HEz : Hid (∀ w, Calls Tryd.prog 9 #[.int .i64 1, .int .i64 2, .agg #[.int .i64 0, .int .i64 0, .int .i64 0, .int .i64 0, .bool false, .bool false, .bool false, .bool false, .int .i64 0, .int .i64 0, .bool false, .slice none 0 0, .string ⟨#[]⟩]] w fun e w' => e = .returned (.tuple #[.string ⟨#[]⟩, .int .i64 110]) ∧ Below w.heap.size w w') := Lib.hid fun w => enc_no 1 2 segZ none 0 w (by decide) (by decide) (by decide) segZ_no (bks_nil _ _)
  have HRS : Hid (∀ (W : World) (A : Option Addr) (c : Nat), Bks W (some ⟨w.heap.size + 1, 0, none⟩) 2 [(9, 12), (20, 25)] → Bks W A 2 [(9, 12), (20, 25)] → Calls Tryd.prog 12 #[.agg #[.int .i64 1, .int .i64 2, .int .i64 0, .int .i64 7, .bool false, .bool false, .bool false, .bool true, .int .i64 0, .int .i64 0, .bool false, .slice (some ⟨w.heap.size + 1, 0, none⟩) 2 2, .string ⟨#[97, 98, 99]⟩], .agg #[.int .i64 1, .int .i64 2, .int .i64 0, .int .i64 7, .bool false, .bool false, .bool false, .bool true, .int .i64 0, .int .i64 0, .bool false, .slice A 2 c, .string ⟨#[97, 98, 99]⟩]] W fun e w' => e = .returned (.bool true) ∧ Below W.heap.size W w') := Lib.hid fun W A c h1 h2 => by have := rsame_any segB segB _ A 2 c W (by decide) h1 h2; rwa [(sameB_iff segB segB).2 rfl] at this
  have HLa : Hid (∀ W, Calls Tryd.prog 26 #[.agg #[.int .i64 1, .int .i64 2, .int .i64 5, .int .i64 0, .bool true, .bool false, .bool false, .bool false, .int .i64 0, .int .i64 100, .bool false, .slice none 0 0, .string ⟨#[]⟩]] W fun e w' => e = .returned (.int .i64 1) ∧ Below W.heap.size W w') := Lib.hid fun W => len_any _ _ _ _ _ _ _ _ _ _ _ _ _ _ _ W (by decide)
  have HLb : Hid (∀ W, Calls Tryd.prog 26 #[.agg #[.int .i64 1, .int .i64 2, .int .i64 0, .int .i64 7, .bool false, .bool false, .bool false, .bool true, .int .i64 0, .int .i64 0, .bool false, .slice (some ⟨w.heap.size + 1, 0, none⟩) 2 2, .string ⟨#[97, 98, 99]⟩]] W fun e w' => e = .returned (.int .i64 3) ∧ Below W.heap.size W w') := Lib.hid fun W => len_any _ _ _ _ _ _ _ _ _ _ _ _ _ _ _ W (by decide)
  have HVa : Hid (∀ W, Calls Tryd.prog 27 #[.agg #[.int .i64 1, .int .i64 2, .int .i64 5, .int .i64 0, .bool true, .bool false, .bool false, .bool false, .int .i64 0, .int .i64 100, .bool false, .slice none 0 0, .string ⟨#[]⟩]] W fun e w' => e = .returned (.bool true) ∧ Below W.heap.size W w') := Lib.hid fun W => valSeg segA none 0 W true (by decide +kernel) (by decide) (bks_nil _ _)
  have HVz : Hid (∀ W, Calls Tryd.prog 27 #[.agg #[.int .i64 0, .int .i64 0, .int .i64 0, .int .i64 0, .bool false, .bool false, .bool false, .bool false, .int .i64 0, .int .i64 0, .bool false, .slice none 0 0, .string ⟨#[]⟩]] W fun e w' => e = .returned (.bool false) ∧ Below W.heap.size W w') := Lib.hid fun W => valSeg segZ none 0 W false (by decide +kernel) (by decide) (bks_nil _ _)
  have HSa : Hid (∀ W, Calls Tryd.prog 28 #[.agg #[.int .i64 1, .int .i64 2, .int .i64 5, .int .i64 0, .bool true, .bool false, .bool false, .bool false, .int .i64 0, .int .i64 100, .bool false, .slice none 0 0, .string ⟨#[]⟩], .agg #[.int .i64 1, .int .i64 2, .int .i64 5, .int .i64 0, .bool true, .bool false, .bool false, .bool false, .int .i64 0, .int .i64 100, .bool false, .slice none 0 0, .string ⟨#[]⟩]] W fun e w' => e = .returned (.bool true) ∧ Below W.heap.size W w') := Lib.hid fun W => same_yes segA none none 0 0 W (by decide) (bks_nil _ _) (bks_nil _ _)
  have HSab : Hid (∀ W, Bks W (some ⟨w.heap.size + 1, 0, none⟩) 2 [(9, 12), (20, 25)] → Calls Tryd.prog 28 #[.agg #[.int .i64 1, .int .i64 2, .int .i64 5, .int .i64 0, .bool true, .bool false, .bool false, .bool false, .int .i64 0, .int .i64 100, .bool false, .slice none 0 0, .string ⟨#[]⟩], .agg #[.int .i64 1, .int .i64 2, .int .i64 0, .int .i64 7, .bool false, .bool false, .bool false, .bool true, .int .i64 0, .int .i64 0, .bool false, .slice (some ⟨w.heap.size + 1, 0, none⟩) 2 2, .string ⟨#[97, 98, 99]⟩]] W fun e w' => e = .returned (.bool false) ∧ Below W.heap.size W w') := Lib.hid fun W hb => same_seq segA segB none _ 0 2 W rfl rfl (by decide) (bks_nil _ _) hb
  go_enter Tryd.func5, Tryd.ntmps5
  have HB := Below.refl w.heap.size w
  have Ha := Lib.hid (alloc_new' w (.cells #[.int .i64 1, .int .i64 2, .int .i64 5, .int .i64 0, .bool true, .bool false, .bool false, .bool false, .int .i64 0, .int .i64 100, .bool false, .slice none 0 0, .string ⟨#[]⟩] 24) (w.heap.size) (by simp))
  have HB' := below_alloc (o := .cells #[.int .i64 1, .int .i64 2, .int .i64 5, .int .i64 0, .bool true, .bool false, .bool false, .bool false, .int .i64 0, .int .i64 100, .bool false, .slice none 0 0, .string ⟨#[]⟩] 24) HB; clear HB; have HB := HB'; clear HB'
  have Hr := Lib.hid (alloc_new' (w.alloc (.cells #[.int .i64 1, .int .i64 2, .int .i64 5, .int .i64 0, .bool true, .bool false, .bool false, .bool false, .int .i64 0, .int .i64 100, .bool false, .slice none 0 0, .string ⟨#[]⟩] 24)) (.cells #[.int .i64 9, .int .i64 12, .int .i64 20, .int .i64 25] 73) (w.heap.size + 1) (by simp))
  have Ha' := Lib.hid (block_alloc Ha.out (.cells #[.int .i64 9, .int .i64 12, .int .i64 20, .int .i64 25] 73)); clear Ha; have Ha := Ha'; clear Ha'
  have HB' := below_alloc (o := .cells #[.int .i64 9, .int .i64 12, .int .i64 20, .int .i64 25] 73) HB; clear HB; have HB := HB'; clear HB'
  have Hb := Lib.hid (alloc_new' ((w.alloc (.cells #[.int .i64 1, .int .i64 2, .int .i64 5, .int .i64 0, .bool true, .bool false, .bool false, .bool false, .int .i64 0, .int .i64 100, .bool false, .slice none 0 0, .string ⟨#[]⟩] 24)).alloc (.cells #[.int .i64 9, .int .i64 12, .int .i64 20, .int .i64 25] 73)) (.cells #[.int .i64 1, .int .i64 2, .int .i64 0, .int .i64 7, .bool false, .bool false, .bool false, .bool true, .int .i64 0, .int .i64 0, .bool false, .slice (some ⟨w.heap.size + 1, 0, none⟩) 2 2, .string ⟨#[97, 98, 99]⟩] 24) (w.heap.size + 1 + 1) (by simp))
  have Ha' := Lib.hid (block_alloc Ha.out (.cells #[.int .i64 1, .int .i64 2, .int .i64 0, .int .i64 7, .bool false, .bool false, .bool false, .bool true, .int .i64 0, .int .i64 0, .bool false, .slice (some ⟨w.heap.size + 1, 0, none⟩) 2 2, .string ⟨#[97, 98, 99]⟩] 24)); clear Ha; have Ha := Ha'; clear Ha'
  have Hr' := Lib.hid (block_alloc Hr.out (.cells #[.int .i64 1, .int .i64 2, .int .i64 0, .int .i64 7, .bool false, .bool false, .bool false, .bool true, .int .i64 0, .int .i64 0, .bool false, .slice (some ⟨w.heap.size + 1, 0, none⟩) 2 2, .string ⟨#[97, 98, 99]⟩] 24)); clear Hr; have Hr := Hr'; clear Hr'
  have HB' := below_alloc (o := .cells #[.int .i64 1, .int .i64 2, .int .i64 0, .int .i64 7, .bool false, .bool false, .bool false, .bool true, .int .i64 0, .int .i64 0, .bool false, .slice (some ⟨w.heap.size + 1, 0, none⟩) 2 2, .string ⟨#[97, 98, 99]⟩] 24) HB; clear HB; have HB := HB'; clear HB'
  have lE1 := encA_len; have lE2 := encB_len; have tE1 := encA_take
  generalize hEA : segA.enc 1 2 = EA at *; generalize hEB : segB.enc 1 2 = EB at *
  have LE1 := Lib.hid (show ((EA.length : Int) == 20) = true by rw [lE1]; rfl); have LE2 := Lib.hid (show ((EB.length : Int) == 39) = true by rw [lE2]; rfl)
  have sl1 : (14 : Int) ≤ (EA.length : Int) := by rw [lE1]; omega
  have TE1 := Lib.hid (show ((⟨EA.toArray⟩ : ByteArray).extract 0 14).toList = [0, 1, 0, 2, 0, 0, 0, 5, 0, 0, 0, 0, 1, 0] by rw [ByteArray.toList_eq]; simpa using tE1); clear lE1 lE2 tE1 hEA hEB
  go_wp2_with fail
  refine (HEa.out _).mono ?_
  rintro e w1 ⟨rfl, hb⟩
  have Ha' := Lib.hid (bblock hb Ha.out); clear Ha; have Ha := Ha'; clear Ha'
  have Hr' := Lib.hid (bblock hb Hr.out); clear Hr; have Hr := Hr'; clear Hr'
  have Hb' := Lib.hid (bblock hb Hb.out); clear Hb; have Hb := Hb'; clear Hb'
  have HB' := below_call HB hb; clear HB hb; have HB := HB'; clear HB'; have hz1 := HB.size
  have lt_a_1 := blk_lt Ha.out
  have lt_r_1 := blk_lt Hr.out
  have lt_b_1 := blk_lt Hb.out
  have Sb := cells13 Hb.out
  obtain ⟨⟨qb0, qb1, qb2, qb3, qb4, qb5, qb6, qb7, qb8, qb9, qb10, qb11, qb12⟩, zb0, zb1, zb2, zb3, zb4, zb5, zb6, zb7, zb8, zb9, zb10, zb11, zb12⟩ := Sb
  have lt_b := blk_lt Hb.out
  go_wp2_with fail
  refine (HEb.out _ (bks_blk Hr.out)).mono ?_
  rintro e w2 ⟨rfl, hb⟩
  clear qb0 zb0 qb1 zb1 qb2 zb2 qb3 zb3 qb4 zb4 qb5 zb5 qb6 zb6 qb7 zb7 qb8 zb8 qb9 zb9 qb10 zb10 qb11 zb11 qb12 zb12
  have Ha' := Lib.hid (bblock hb Ha.out); clear Ha; have Ha := Ha'; clear Ha'
  have Hr' := Lib.hid (bblock hb Hr.out); clear Hr; have Hr := Hr'; clear Hr'
  have Hb' := Lib.hid (bblock hb Hb.out); clear Hb; have Hb := Hb'; clear Hb'
  have HB' := below_call HB hb; clear HB hb; have HB := HB'; clear HB'; have hz2 := HB.size
  have lt_a_2 := blk_lt Ha.out
  have lt_r_2 := blk_lt Hr.out
  have lt_b_2 := blk_lt Hb.out
  go_wp2_with fail
  refine (HDb.out _).mono ?_
  rintro e w3 ⟨⟨A, c, rfl, hbk⟩, hb⟩
  have Ha' := Lib.hid (bblock hb Ha.out); clear Ha; have Ha := Ha'; clear Ha'
  have Hr' := Lib.hid (bblock hb Hr.out); clear Hr; have Hr := Hr'; clear Hr'
  have Hb' := Lib.hid (bblock hb Hb.out); clear Hb; have Hb := Hb'; clear Hb'
  have HB' := below_call HB hb; clear HB hb; have HB := HB'; clear HB'; have hz3 := HB.size
  have lt_a_3 := blk_lt Ha.out
  have lt_r_3 := blk_lt Hr.out
  have lt_b_3 := blk_lt Hb.out
  have Hbk := Lib.hid hbk; clear hbk
  have Hc := Lib.hid (alloc_new' w3 (.cells #[.int .i64 1, .int .i64 2, .int .i64 0, .int .i64 7, .bool false, .bool false, .bool false, .bool true, .int .i64 0, .int .i64 0, .bool false, .slice A 2 c, .string ⟨#[97, 98, 99]⟩] 24) (w3.heap.size) (by simp))
  have Ha' := Lib.hid (block_alloc Ha.out (.cells #[.int .i64 1, .int .i64 2, .int .i64 0, .int .i64 7, .bool false, .bool false, .bool false, .bool true, .int .i64 0, .int .i64 0, .bool false, .slice A 2 c, .string ⟨#[97, 98, 99]⟩] 24)); clear Ha; have Ha := Ha'; clear Ha'
  have Hr' := Lib.hid (block_alloc Hr.out (.cells #[.int .i64 1, .int .i64 2, .int .i64 0, .int .i64 7, .bool false, .bool false, .bool false, .bool true, .int .i64 0, .int .i64 0, .bool false, .slice A 2 c, .string ⟨#[97, 98, 99]⟩] 24)); clear Hr; have Hr := Hr'; clear Hr'
  have Hb' := Lib.hid (block_alloc Hb.out (.cells #[.int .i64 1, .int .i64 2, .int .i64 0, .int .i64 7, .bool false, .bool false, .bool false, .bool true, .int .i64 0, .int .i64 0, .bool false, .slice A 2 c, .string ⟨#[97, 98, 99]⟩] 24)); clear Hb; have Hb := Hb'; clear Hb'
  have Hbk' := Lib.hid (Hbk.out.alloc (.cells #[.int .i64 1, .int .i64 2, .int .i64 0, .int .i64 7, .bool false, .bool false, .bool false, .bool true, .int .i64 0, .int .i64 0, .bool false, .slice A 2 c, .string ⟨#[97, 98, 99]⟩] 24)); clear Hbk; have Hbk := Hbk'; clear Hbk'
  have HB' := below_alloc (o := .cells #[.int .i64 1, .int .i64 2, .int .i64 0, .int .i64 7, .bool false, .bool false, .bool false, .bool true, .int .i64 0, .int .i64 0, .bool false, .slice A 2 c, .string ⟨#[97, 98, 99]⟩] 24) HB; clear HB; have HB := HB'; clear HB'
  go_wp2_with fail
  refine (HDx.out _).mono ?_
  rintro e w4 ⟨rfl, hb⟩
  have Ha' := Lib.hid (bblock hb Ha.out); clear Ha; have Ha := Ha'; clear Ha'
  have Hr' := Lib.hid (bblock hb Hr.out); clear Hr; have Hr := Hr'; clear Hr'
  have Hb' := Lib.hid (bblock hb Hb.out); clear Hb; have Hb := Hb'; clear Hb'
  have Hc' := Lib.hid (bblock hb Hc.out); clear Hc; have Hc := Hc'; clear Hc'
  have Hbk' := Lib.hid (Hbk.out.below hb); clear Hbk; have Hbk := Hbk'; clear Hbk'
  have HB' := below_call HB hb; clear HB hb; have HB := HB'; clear HB'; have hz4 := HB.size
  have lt_a_4 := blk_lt Ha.out
  have lt_r_4 := blk_lt Hr.out
  have lt_b_4 := blk_lt Hb.out
  have lt_c_4 := blk_lt Hc.out
  have Ha' := Lib.hid (block_alloc Ha.out (.cells #[.int .i64 0, .int .i64 0, .int .i64 0, .int .i64 0, .bool false, .bool false, .bool false, .bool false, .int .i64 0, .int .i64 0, .bool false, .slice none 0 0, .string ⟨#[]⟩] 24)); clear Ha; have Ha := Ha'; clear Ha'
  have Hr' := Lib.hid (block_alloc Hr.out (.cells #[.int .i64 0, .int .i64 0, .int .i64 0, .int .i64 0, .bool false, .bool false, .bool false, .bool false, .int .i64 0, .int .i64 0, .bool false, .slice none 0 0, .string ⟨#[]⟩] 24)); clear Hr; have Hr := Hr'; clear Hr'
  have Hb' := Lib.hid (block_alloc Hb.out (.cells #[.int .i64 0, .int .i64 0, .int .i64 0, .int .i64 0, .bool false, .bool false, .bool false, .bool false, .int .i64 0, .int .i64 0, .bool false, .slice none 0 0, .string ⟨#[]⟩] 24)); clear Hb; have Hb := Hb'; clear Hb'
  have Hc' := Lib.hid (block_alloc Hc.out (.cells #[.int .i64 0, .int .i64 0, .int .i64 0, .int .i64 0, .bool false, .bool false, .bool false, .bool false, .int .i64 0, .int .i64 0, .bool false, .slice none 0 0, .string ⟨#[]⟩] 24)); clear Hc; have Hc := Hc'; clear Hc'
  have Hbk' := Lib.hid (Hbk.out.alloc (.cells #[.int .i64 0, .int .i64 0, .int .i64 0, .int .i64 0, .bool false, .bool false, .bool false, .bool false, .int .i64 0, .int .i64 0, .bool false, .slice none 0 0, .string ⟨#[]⟩] 24)); clear Hbk; have Hbk := Hbk'; clear Hbk'
  have HB' := below_alloc (o := .cells #[.int .i64 0, .int .i64 0, .int .i64 0, .int .i64 0, .bool false, .bool false, .bool false, .bool false, .int .i64 0, .int .i64 0, .bool false, .slice none 0 0, .string ⟨#[]⟩] 24) HB; clear HB; have HB := HB'; clear HB'
  have Sa := cells13 Ha.out
  obtain ⟨⟨qa0, qa1, qa2, qa3, qa4, qa5, qa6, qa7, qa8, qa9, qa10, qa11, qa12⟩, za0, za1, za2, za3, za4, za5, za6, za7, za8, za9, za10, za11, za12⟩ := Sa
  have lt_a := blk_lt Ha.out
  go_wp2_with fail
  refine (HEn.out _).mono ?_
  rintro e w5 ⟨rfl, hb⟩
  clear qa0 za0 qa1 za1 qa2 za2 qa3 za3 qa4 za4 qa5 za5 qa6 za6 qa7 za7 qa8 za8 qa9 za9 qa10 za10 qa11 za11 qa12 za12
  have Ha' := Lib.hid (bblock hb Ha.out); clear Ha; have Ha := Ha'; clear Ha'
  have Hr' := Lib.hid (bblock hb Hr.out); clear Hr; have Hr := Hr'; clear Hr'
  have Hb' := Lib.hid (bblock hb Hb.out); clear Hb; have Hb := Hb'; clear Hb'
  have Hc' := Lib.hid (bblock hb Hc.out); clear Hc; have Hc := Hc'; clear Hc'
  have Hbk' := Lib.hid (Hbk.out.below hb); clear Hbk; have Hbk := Hbk'; clear Hbk'
  have HB' := below_call HB hb; clear HB hb; have HB := HB'; clear HB'; have hz5 := HB.size
  have lt_a_5 := blk_lt Ha.out
  have lt_r_5 := blk_lt Hr.out
  have lt_b_5 := blk_lt Hb.out
  have lt_c_5 := blk_lt Hc.out
  go_wp2_with fail
  refine (HEz.out _).mono ?_
  rintro e w6 ⟨rfl, hb⟩
  have Ha' := Lib.hid (bblock hb Ha.out); clear Ha; have Ha := Ha'; clear Ha'
  have Hr' := Lib.hid (bblock hb Hr.out); clear Hr; have Hr := Hr'; clear Hr'
  have Hb' := Lib.hid (bblock hb Hb.out); clear Hb; have Hb := Hb'; clear Hb'
  have Hc' := Lib.hid (bblock hb Hc.out); clear Hc; have Hc := Hc'; clear Hc'
  have Hbk' := Lib.hid (Hbk.out.below hb); clear Hbk; have Hbk := Hbk'; clear Hbk'
  have HB' := below_call HB hb; clear HB hb; have HB := HB'; clear HB'; have hz6 := HB.size
  have lt_a_6 := blk_lt Ha.out
  have lt_r_6 := blk_lt Hr.out
  have lt_b_6 := blk_lt Hb.out
  have lt_c_6 := blk_lt Hc.out
  go_upto_region 9 with fail
  simp only [List.append_eq, List.cons_append, List.nil_append]
  have le1 := LE1.out; have le2 := LE2.out; have te1 := TE1.out
  have Sb := cells13 Hb.out
  obtain ⟨⟨qb0, qb1, qb2, qb3, qb4, qb5, qb6, qb7, qb8, qb9, qb10, qb11, qb12⟩, zb0, zb1, zb2, zb3, zb4, zb5, zb6, zb7, zb8, zb9, zb10, zb11, zb12⟩ := Sb
  have lt_b := blk_lt Hb.out
  have Sc := cells13 Hc.out
  obtain ⟨⟨qc0, qc1, qc2, qc3, qc4, qc5, qc6, qc7, qc8, qc9, qc10, qc11, qc12⟩, zc0, zc1, zc2, zc3, zc4, zc5, zc6, zc7, zc8, zc9, zc10, zc11, zc12⟩ := Sc
  have lt_c := blk_lt Hc.out
  go_wp2_with fail
  refine (HRS.out _ A c (bks_blk Hr.out) Hbk.out).mono ?_
  rintro e w7 ⟨rfl, hb⟩
  clear qb0 zb0 qb1 zb1 qb2 zb2 qb3 zb3 qb4 zb4 qb5 zb5 qb6 zb6 qb7 zb7 qb8 zb8 qb9 zb9 qb10 zb10 qb11 zb11 qb12 zb12
  clear qc0 zc0 qc1 zc1 qc2 zc2 qc3 zc3 qc4 zc4 qc5 zc5 qc6 zc6 qc7 zc7 qc8 zc8 qc9 zc9 qc10 zc10 qc11 zc11 qc12 zc12
  have Ha' := Lib.hid (bblock hb Ha.out); clear Ha; have Ha := Ha'; clear Ha'
  have Hr' := Lib.hid (bblock hb Hr.out); clear Hr; have Hr := Hr'; clear Hr'
  have Hb' := Lib.hid (bblock hb Hb.out); clear Hb; have Hb := Hb'; clear Hb'
  have Hc' := Lib.hid (bblock hb Hc.out); clear Hc; have Hc := Hc'; clear Hc'
  have Hbk' := Lib.hid (Hbk.out.below hb); clear Hbk; have Hbk := Hbk'; clear Hbk'
  have HB' := below_call HB hb; clear HB hb; have HB := HB'; clear HB'; have hz7 := HB.size
  have lt_a_7 := blk_lt Ha.out
  have lt_r_7 := blk_lt Hr.out
  have lt_b_7 := blk_lt Hb.out
  have lt_c_7 := blk_lt Hc.out
  have Sa := cells13 Ha.out
  obtain ⟨⟨qa0, qa1, qa2, qa3, qa4, qa5, qa6, qa7, qa8, qa9, qa10, qa11, qa12⟩, za0, za1, za2, za3, za4, za5, za6, za7, za8, za9, za10, za11, za12⟩ := Sa
  have lt_a := blk_lt Ha.out
  go_wp2_with fail
  refine (HLa.out _).mono ?_
  rintro e w8 ⟨rfl, hb⟩
  clear qa0 za0 qa1 za1 qa2 za2 qa3 za3 qa4 za4 qa5 za5 qa6 za6 qa7 za7 qa8 za8 qa9 za9 qa10 za10 qa11 za11 qa12 za12
  have Ha' := Lib.hid (bblock hb Ha.out); clear Ha; have Ha := Ha'; clear Ha'
  have Hr' := Lib.hid (bblock hb Hr.out); clear Hr; have Hr := Hr'; clear Hr'
  have Hb' := Lib.hid (bblock hb Hb.out); clear Hb; have Hb := Hb'; clear Hb'
  have Hc' := Lib.hid (bblock hb Hc.out); clear Hc; have Hc := Hc'; clear Hc'
  have Hbk' := Lib.hid (Hbk.out.below hb); clear Hbk; have Hbk := Hbk'; clear Hbk'
  have HB' := below_call HB hb; clear HB hb; have HB := HB'; clear HB'; have hz8 := HB.size
  have lt_a_8 := blk_lt Ha.out
  have lt_r_8 := blk_lt Hr.out
  have lt_b_8 := blk_lt Hb.out
  have lt_c_8 := blk_lt Hc.out
  have Sb := cells13 Hb.out
  obtain ⟨⟨qb0, qb1, qb2, qb3, qb4, qb5, qb6, qb7, qb8, qb9, qb10, qb11, qb12⟩, zb0, zb1, zb2, zb3, zb4, zb5, zb6, zb7, zb8, zb9, zb10, zb11, zb12⟩ := Sb
  have lt_b := blk_lt Hb.out
  go_wp2_with fail
  refine (HLb.out _).mono ?_
  rintro e w9 ⟨rfl, hb⟩
  clear qb0 zb0 qb1 zb1 qb2 zb2 qb3 zb3 qb4 zb4 qb5 zb5 qb6 zb6 qb7 zb7 qb8 zb8 qb9 zb9 qb10 zb10 qb11 zb11 qb12 zb12
  have Ha' := Lib.hid (bblock hb Ha.out); clear Ha; have Ha := Ha'; clear Ha'
  have Hr' := Lib.hid (bblock hb Hr.out); clear Hr; have Hr := Hr'; clear Hr'
  have Hb' := Lib.hid (bblock hb Hb.out); clear Hb; have Hb := Hb'; clear Hb'
  have Hc' := Lib.hid (bblock hb Hc.out); clear Hc; have Hc := Hc'; clear Hc'
  have Hbk' := Lib.hid (Hbk.out.below hb); clear Hbk; have Hbk := Hbk'; clear Hbk'
  have HB' := below_call HB hb; clear HB hb; have HB := HB'; clear HB'; have hz9 := HB.size
  have lt_a_9 := blk_lt Ha.out
  have lt_r_9 := blk_lt Hr.out
  have lt_b_9 := blk_lt Hb.out
  have lt_c_9 := blk_lt Hc.out
  have Sa := cells13 Ha.out
  obtain ⟨⟨qa0, qa1, qa2, qa3, qa4, qa5, qa6, qa7, qa8, qa9, qa10, qa11, qa12⟩, za0, za1, za2, za3, za4, za5, za6, za7, za8, za9, za10, za11, za12⟩ := Sa
  have lt_a := blk_lt Ha.out
  go_wp2_with fail
  refine (HVa.out _).mono ?_
  rintro e w10 ⟨rfl, hb⟩
  clear qa0 za0 qa1 za1 qa2 za2 qa3 za3 qa4 za4 qa5 za5 qa6 za6 qa7 za7 qa8 za8 qa9 za9 qa10 za10 qa11 za11 qa12 za12
  have Ha' := Lib.hid (bblock hb Ha.out); clear Ha; have Ha := Ha'; clear Ha'
  have Hr' := Lib.hid (bblock hb Hr.out); clear Hr; have Hr := Hr'; clear Hr'
  have Hb' := Lib.hid (bblock hb Hb.out); clear Hb; have Hb := Hb'; clear Hb'
  have Hc' := Lib.hid (bblock hb Hc.out); clear Hc; have Hc := Hc'; clear Hc'
  have Hbk' := Lib.hid (Hbk.out.below hb); clear Hbk; have Hbk := Hbk'; clear Hbk'
  have HB' := below_call HB hb; clear HB hb; have HB := HB'; clear HB'; have hz10 := HB.size
  have lt_a_10 := blk_lt Ha.out
  have lt_r_10 := blk_lt Hr.out
  have lt_b_10 := blk_lt Hb.out
  have lt_c_10 := blk_lt Hc.out
  go_wp2_with fail
  refine (HVz.out _).mono ?_
  rintro e w11 ⟨rfl, hb⟩
  have Ha' := Lib.hid (bblock hb Ha.out); clear Ha; have Ha := Ha'; clear Ha'
  have Hr' := Lib.hid (bblock hb Hr.out); clear Hr; have Hr := Hr'; clear Hr'
  have Hb' := Lib.hid (bblock hb Hb.out); clear Hb; have Hb := Hb'; clear Hb'
  have Hc' := Lib.hid (bblock hb Hc.out); clear Hc; have Hc := Hc'; clear Hc'
  have Hbk' := Lib.hid (Hbk.out.below hb); clear Hbk; have Hbk := Hbk'; clear Hbk'
  have HB' := below_call HB hb; clear HB hb; have HB := HB'; clear HB'; have hz11 := HB.size
  have lt_a_11 := blk_lt Ha.out
  have lt_r_11 := blk_lt Hr.out
  have lt_b_11 := blk_lt Hb.out
  have lt_c_11 := blk_lt Hc.out
  have Sa := cells13 Ha.out
  obtain ⟨⟨qa0, qa1, qa2, qa3, qa4, qa5, qa6, qa7, qa8, qa9, qa10, qa11, qa12⟩, za0, za1, za2, za3, za4, za5, za6, za7, za8, za9, za10, za11, za12⟩ := Sa
  have lt_a := blk_lt Ha.out
  go_wp2_with fail
  refine (HSa.out _).mono ?_
  rintro e w12 ⟨rfl, hb⟩
  clear qa0 za0 qa1 za1 qa2 za2 qa3 za3 qa4 za4 qa5 za5 qa6 za6 qa7 za7 qa8 za8 qa9 za9 qa10 za10 qa11 za11 qa12 za12
  have Ha' := Lib.hid (bblock hb Ha.out); clear Ha; have Ha := Ha'; clear Ha'
  have Hr' := Lib.hid (bblock hb Hr.out); clear Hr; have Hr := Hr'; clear Hr'
  have Hb' := Lib.hid (bblock hb Hb.out); clear Hb; have Hb := Hb'; clear Hb'
  have Hc' := Lib.hid (bblock hb Hc.out); clear Hc; have Hc := Hc'; clear Hc'
  have Hbk' := Lib.hid (Hbk.out.below hb); clear Hbk; have Hbk := Hbk'; clear Hbk'
  have HB' := below_call HB hb; clear HB hb; have HB := HB'; clear HB'; have hz12 := HB.size
  have lt_a_12 := blk_lt Ha.out
  have lt_r_12 := blk_lt Hr.out
  have lt_b_12 := blk_lt Hb.out
  have lt_c_12 := blk_lt Hc.out
  have Sa := cells13 Ha.out
  obtain ⟨⟨qa0, qa1, qa2, qa3, qa4, qa5, qa6, qa7, qa8, qa9, qa10, qa11, qa12⟩, za0, za1, za2, za3, za4, za5, za6, za7, za8, za9, za10, za11, za12⟩ := Sa
  have lt_a := blk_lt Ha.out
  have Sb := cells13 Hb.out
  obtain ⟨⟨qb0, qb1, qb2, qb3, qb4, qb5, qb6, qb7, qb8, qb9, qb10, qb11, qb12⟩, zb0, zb1, zb2, zb3, zb4, zb5, zb6, zb7, zb8, zb9, zb10, zb11, zb12⟩ := Sb
  have lt_b := blk_lt Hb.out
  go_wp2_with fail
  refine (HSab.out _ (bks_blk Hr.out)).mono ?_
  rintro e w13 ⟨rfl, hb⟩
  clear qa0 za0 qa1 za1 qa2 za2 qa3 za3 qa4 za4 qa5 za5 qa6 za6 qa7 za7 qa8 za8 qa9 za9 qa10 za10 qa11 za11 qa12 za12
  clear qb0 zb0 qb1 zb1 qb2 zb2 qb3 zb3 qb4 zb4 qb5 zb5 qb6 zb6 qb7 zb7 qb8 zb8 qb9 zb9 qb10 zb10 qb11 zb11 qb12 zb12
  have Ha' := Lib.hid (bblock hb Ha.out); clear Ha; have Ha := Ha'; clear Ha'
  have Hr' := Lib.hid (bblock hb Hr.out); clear Hr; have Hr := Hr'; clear Hr'
  have Hb' := Lib.hid (bblock hb Hb.out); clear Hb; have Hb := Hb'; clear Hb'
  have Hc' := Lib.hid (bblock hb Hc.out); clear Hc; have Hc := Hc'; clear Hc'
  have Hbk' := Lib.hid (Hbk.out.below hb); clear Hbk; have Hbk := Hbk'; clear Hbk'
  have HB' := below_call HB hb; clear HB hb; have HB := HB'; clear HB'; have hz13 := HB.size
  have lt_a_13 := blk_lt Ha.out
  have lt_r_13 := blk_lt Hr.out
  have lt_b_13 := blk_lt Hb.out
  have lt_c_13 := blk_lt Hc.out
  go_wp2_with fail
  go_ret
  exact ⟨rfl, HB⟩
end Go.Proofs.YtmgjcjacoegocaaDoor.Sg
