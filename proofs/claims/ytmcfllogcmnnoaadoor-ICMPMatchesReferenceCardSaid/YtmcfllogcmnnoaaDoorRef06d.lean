/-
  Contracts of the reference of chapter 6: get, DecodeHeader.
-/
import Derived.Test.YtmcfllogcmnnoaaDoorRef06
import Derived.Test.YtmcfllogcmnnoaaDoorIpDec6
namespace Go.Proofs.YtmcfllogcmnnoaaDoor.Ip
set_option maxRecDepth 100000
open Go.RowKit Go.Proofs.YtmcfllogcmnnoaaDoor.Wire

theorem below_drewN {B : Nat} {a w : World} (h : Below B a w) (n : Nat) : Below B a (w.drewN n) := ⟨h.os, h.tape, h.output, h.size, h.block⟩
theorem rep_snoc (k : Nat) : (⟨(List.replicate (k + 1) (120 : UInt8)).toArray⟩ : ByteArray) = ⟨(List.replicate k (120 : UInt8)).toArray⟩ ++ ⟨#[120]⟩ := by
  rw [List.replicate_succ']; exact (ba_append (List.replicate k 120) [120]).symm
theorem rget_any (s : ByteArray) (a k : Nat) (n : Int) (w : World) (h1 : 1 ≤ k) (h4 : k ≤ 4) (hm : s.size ≤ 9223372036854775807) (hk : a + k ≤ s.size) (hn : nAt s a k = n) :
    Calls Tryd.prog 75 #[.string s, .int .i64 (a : Int), .int .i64 (k : Int)] w fun e w' => e = .returned (.int .i64 n) ∧ w = w' := by
  have HG := Lib.hid fun w => rget_ok s a k w h1 h4 hm hk
  rw [show num (bytesAt s a k) = n from hn] at HG
  clear hn
  go_enter Tryd.func75, Tryd.ntmps75
  go_wp2_with (go_at_call 42; refine (HG.out _).mono ?_; rintro e w' ⟨rfl, rfl⟩)
  go_ret
  exact ⟨rfl, rfl⟩

set_option maxRecDepth 100000 in
set_option maxHeartbeats 4000000 in
theorem rDH_big (s : ByteArray) (w : World) (n1 n2 n3 n4 n5 n6 n7 n8 : Int) (df mf : Bool) (h20 : 20 ≤ s.size) (hs : s.size ≤ 9223372036854775807) (hn6 : Hid (nAt s 13 1 = n6)) (hn8 : Hid (nAt s 16 2 = n8)) (hn1 : Hid (nAt s 1 4 = n1)) (hn2 : Hid (nAt s 5 4 = n2)) (hn3 : Hid (nAt s 9 1 = n3)) (hn4 : Hid (nAt s 10 1 = n4)) (hn5 : Hid (nAt s 11 2 = n5)) (hn7 : Hid (nAt s 14 2 = n7)) (h6 : 0 ≤ n6) (h6b : n6 ≤ 255) (h7 : 0 ≤ n7) (h7b : n7 ≤ 65535) (_h8 : 0 ≤ n8) (_h8b : n8 ≤ 65535) (hdf : (n6 % 2 == 1) = df) (hmf : (n6 / 2 % 2 == 1) = mf) (hb : 4000 < n8) :
    Calls Tryd.prog 46 #[.string s] w fun e w' => e = .returned (.tuple #[.agg #[.int .i64 0, .int .i64 0, .int .i64 0, .int .i64 0, .int .i64 0, .bool false, .bool false, .int .i64 0, .string ⟨#[]⟩], .int .i64 60]) ∧ Below w.heap.size w w' := by
  have h20i : decide ((s.size : Int) < 20) = false := by simp; omega
  go_enter Tryd.func46, Tryd.ntmps46
  have HB := Below.refl w.heap.size w
  have Hr := Lib.hid (alloc_new' w (.cells #[.int .i64 0, .int .i64 0, .int .i64 0, .int .i64 0, .int .i64 0, .bool false, .bool false, .int .i64 0, .string ⟨#[]⟩] 31) (w.heap.size) (by simp))
  have HB' := below_alloc (o := .cells #[.int .i64 0, .int .i64 0, .int .i64 0, .int .i64 0, .int .i64 0, .bool false, .bool false, .int .i64 0, .string ⟨#[]⟩] 31) HB; clear HB; have HB := HB'; clear HB'
  go_wp2_with fail
  refine (rget_any s 13 1 n6 _ (by omega) (by omega) hs (by omega) hn6.out).mono ?_
  rintro e w' ⟨rfl, rfl⟩
  go_wp2_with fail
  refine (rget_any s 16 2 n8 _ (by omega) (by omega) hs (by omega) hn8.out).mono ?_
  rintro e w' ⟨rfl, rfl⟩
  go_wp2_with fail
  refine (rget_any s 1 4 n1 _ (by omega) (by omega) hs (by omega) hn1.out).mono ?_
  rintro e w' ⟨rfl, rfl⟩
  go_wp2_with fail
  refine (rget_any s 5 4 n2 _ (by omega) (by omega) hs (by omega) hn2.out).mono ?_
  rintro e w' ⟨rfl, rfl⟩
  go_wp2_with fail
  refine (rget_any s 9 1 n3 _ (by omega) (by omega) hs (by omega) hn3.out).mono ?_
  rintro e w' ⟨rfl, rfl⟩
  go_wp2_with fail
  refine (rget_any s 10 1 n4 _ (by omega) (by omega) hs (by omega) hn4.out).mono ?_
  rintro e w' ⟨rfl, rfl⟩
  go_wp2_with fail
  refine (rget_any s 11 2 n5 _ (by omega) (by omega) hs (by omega) hn5.out).mono ?_
  rintro e w' ⟨rfl, rfl⟩
  go_wp2_with fail
  refine (rget_any s 14 2 n7 _ (by omega) (by omega) hs (by omega) hn7.out).mono ?_
  rintro e w' ⟨rfl, rfl⟩
  have Hp := Lib.hid (alloc_new' (w.alloc (.cells #[.int .i64 0, .int .i64 0, .int .i64 0, .int .i64 0, .int .i64 0, .bool false, .bool false, .int .i64 0, .string ⟨#[]⟩] 31)) (.cells #[.int .i64 n1, .int .i64 n2, .int .i64 n3, .int .i64 n4, .int .i64 n5, .bool df, .bool mf, .int .i64 (8 * n7), .string ⟨#[]⟩] 31) (w.heap.size + 1) (by simp))
  have Hr' := Lib.hid (block_alloc Hr.out (.cells #[.int .i64 n1, .int .i64 n2, .int .i64 n3, .int .i64 n4, .int .i64 n5, .bool df, .bool mf, .int .i64 (8 * n7), .string ⟨#[]⟩] 31)); clear Hr; have Hr := Hr'; clear Hr'
  have HB' := below_alloc (o := .cells #[.int .i64 n1, .int .i64 n2, .int .i64 n3, .int .i64 n4, .int .i64 n5, .bool df, .bool mf, .int .i64 (8 * n7), .string ⟨#[]⟩] 31) HB; clear HB; have HB := HB'; clear HB'
  have Sr := cells9 Hr.out
  obtain ⟨⟨qr0, qr1, qr2, qr3, qr4, qr5, qr6, qr7, qr8⟩, zr0, zr1, zr2, zr3, zr4, zr5, zr6, zr7, zr8⟩ := Sr
  have lt_r := blk_lt Hr.out
  go_wp2_with fail
  refine bodyPost_ret (v := .tuple #[.agg #[.int .i64 0, .int .i64 0, .int .i64 0, .int .i64 0, .int .i64 0, .bool false, .bool false, .int .i64 0, .string ⟨#[]⟩], .int .i64 60]) ?_ rfl ⟨rfl, HB⟩
  exact res_cell_tmp Tryd.results46 Hr.out rfl Tryd.underlying31 rfl (by kernel_rfl)

set_option maxRecDepth 100000 in
set_option maxHeartbeats 4000000 in
theorem rDH_long (s : ByteArray) (w : World) (n1 n2 n3 n4 n5 n6 n7 n8 : Int) (df mf : Bool) (h20 : 20 ≤ s.size) (hs : s.size ≤ 9223372036854775807) (hn6 : Hid (nAt s 13 1 = n6)) (hn8 : Hid (nAt s 16 2 = n8)) (hn1 : Hid (nAt s 1 4 = n1)) (hn2 : Hid (nAt s 5 4 = n2)) (hn3 : Hid (nAt s 9 1 = n3)) (hn4 : Hid (nAt s 10 1 = n4)) (hn5 : Hid (nAt s 11 2 = n5)) (hn7 : Hid (nAt s 14 2 = n7)) (h6 : 0 ≤ n6) (h6b : n6 ≤ 255) (h7 : 0 ≤ n7) (h7b : n7 ≤ 65535) (_h8 : 0 ≤ n8) (_h8b : n8 ≤ 65535) (hdf : (n6 % 2 == 1) = df) (hmf : (n6 / 2 % 2 == 1) = mf) (hb : n8 ≤ 4000) (hb2 : 20 + n8 < s.size) :
    Calls Tryd.prog 46 #[.string s] w fun e w' => e = .returned (.tuple #[.agg #[.int .i64 0, .int .i64 0, .int .i64 0, .int .i64 0, .int .i64 0, .bool false, .bool false, .int .i64 0, .string ⟨#[]⟩], .int .i64 60]) ∧ Below w.heap.size w w' := by
  have h20i : decide ((s.size : Int) < 20) = false := by simp; omega
  go_enter Tryd.func46, Tryd.ntmps46
  have HB := Below.refl w.heap.size w
  have Hr := Lib.hid (alloc_new' w (.cells #[.int .i64 0, .int .i64 0, .int .i64 0, .int .i64 0, .int .i64 0, .bool false, .bool false, .int .i64 0, .string ⟨#[]⟩] 31) (w.heap.size) (by simp))
  have HB' := below_alloc (o := .cells #[.int .i64 0, .int .i64 0, .int .i64 0, .int .i64 0, .int .i64 0, .bool false, .bool false, .int .i64 0, .string ⟨#[]⟩] 31) HB; clear HB; have HB := HB'; clear HB'
  go_wp2_with fail
  refine (rget_any s 13 1 n6 _ (by omega) (by omega) hs (by omega) hn6.out).mono ?_
  rintro e w' ⟨rfl, rfl⟩
  go_wp2_with fail
  refine (rget_any s 16 2 n8 _ (by omega) (by omega) hs (by omega) hn8.out).mono ?_
  rintro e w' ⟨rfl, rfl⟩
  go_wp2_with fail
  refine (rget_any s 1 4 n1 _ (by omega) (by omega) hs (by omega) hn1.out).mono ?_
  rintro e w' ⟨rfl, rfl⟩
  go_wp2_with fail
  refine (rget_any s 5 4 n2 _ (by omega) (by omega) hs (by omega) hn2.out).mono ?_
  rintro e w' ⟨rfl, rfl⟩
  go_wp2_with fail
  refine (rget_any s 9 1 n3 _ (by omega) (by omega) hs (by omega) hn3.out).mono ?_
  rintro e w' ⟨rfl, rfl⟩
  go_wp2_with fail
  refine (rget_any s 10 1 n4 _ (by omega) (by omega) hs (by omega) hn4.out).mono ?_
  rintro e w' ⟨rfl, rfl⟩
  go_wp2_with fail
  refine (rget_any s 11 2 n5 _ (by omega) (by omega) hs (by omega) hn5.out).mono ?_
  rintro e w' ⟨rfl, rfl⟩
  go_wp2_with fail
  refine (rget_any s 14 2 n7 _ (by omega) (by omega) hs (by omega) hn7.out).mono ?_
  rintro e w' ⟨rfl, rfl⟩
  have Hp := Lib.hid (alloc_new' (w.alloc (.cells #[.int .i64 0, .int .i64 0, .int .i64 0, .int .i64 0, .int .i64 0, .bool false, .bool false, .int .i64 0, .string ⟨#[]⟩] 31)) (.cells #[.int .i64 n1, .int .i64 n2, .int .i64 n3, .int .i64 n4, .int .i64 n5, .bool df, .bool mf, .int .i64 (8 * n7), .string ⟨#[]⟩] 31) (w.heap.size + 1) (by simp))
  have Hr' := Lib.hid (block_alloc Hr.out (.cells #[.int .i64 n1, .int .i64 n2, .int .i64 n3, .int .i64 n4, .int .i64 n5, .bool df, .bool mf, .int .i64 (8 * n7), .string ⟨#[]⟩] 31)); clear Hr; have Hr := Hr'; clear Hr'
  have HB' := below_alloc (o := .cells #[.int .i64 n1, .int .i64 n2, .int .i64 n3, .int .i64 n4, .int .i64 n5, .bool df, .bool mf, .int .i64 (8 * n7), .string ⟨#[]⟩] 31) HB; clear HB; have HB := HB'; clear HB'
  have Sr := cells9 Hr.out
  obtain ⟨⟨qr0, qr1, qr2, qr3, qr4, qr5, qr6, qr7, qr8⟩, zr0, zr1, zr2, zr3, zr4, zr5, zr6, zr7, zr8⟩ := Sr
  have lt_r := blk_lt Hr.out
  go_wp2_with fail
  refine bodyPost_ret (v := .tuple #[.agg #[.int .i64 0, .int .i64 0, .int .i64 0, .int .i64 0, .int .i64 0, .bool false, .bool false, .int .i64 0, .string ⟨#[]⟩], .int .i64 60]) ?_ rfl ⟨rfl, HB⟩
  exact res_cell_tmp Tryd.results46 Hr.out rfl Tryd.underlying31 rfl (by kernel_rfl)


set_option maxRecDepth 100000 in
set_option maxHeartbeats 4000000 in
theorem rDH_inv (s : ByteArray) (w : World) (n1 n2 n3 n4 n5 n6 n7 n8 : Int) (df mf : Bool) (h20 : 20 ≤ s.size) (hs : s.size ≤ 9223372036854775807) (hn6 : Hid (nAt s 13 1 = n6)) (hn8 : Hid (nAt s 16 2 = n8)) (hn1 : Hid (nAt s 1 4 = n1)) (hn2 : Hid (nAt s 5 4 = n2)) (hn3 : Hid (nAt s 9 1 = n3)) (hn4 : Hid (nAt s 10 1 = n4)) (hn5 : Hid (nAt s 11 2 = n5)) (hn7 : Hid (nAt s 14 2 = n7)) (h6 : 0 ≤ n6) (h6b : n6 ≤ 255) (h7 : 0 ≤ n7) (h7b : n7 ≤ 65535) (h8 : 0 ≤ n8) (h8b : n8 ≤ 65535) (hdf : (n6 % 2 == 1) = df) (hmf : (n6 / 2 % 2 == 1) = mf) (hb : n8 ≤ 4000) (hb2 : (s.size : Int) ≤ 20 + n8) (HV : Hid (∀ (X : List UInt8) (w : World), (X.length : Int) = n8 → Calls Tryd.prog 52 #[.agg #[.int .i64 n1, .int .i64 n2, .int .i64 n3, .int .i64 n4, .int .i64 n5, .bool df, .bool mf, .int .i64 (8 * n7), .string ⟨X.toArray⟩]] w fun e w' => e = .returned (.bool false) ∧ Below w.heap.size w w')) :
    Calls Tryd.prog 46 #[.string s] w fun e w' => e = .returned (.tuple #[.agg #[.int .i64 0, .int .i64 0, .int .i64 0, .int .i64 0, .int .i64 0, .bool false, .bool false, .int .i64 0, .string ⟨#[]⟩], .int .i64 60]) ∧ Below w.heap.size w w' := by
  have h20i : decide ((s.size : Int) < 20) = false := by simp; omega
  go_enter Tryd.func46, Tryd.ntmps46
  have HB := Below.refl w.heap.size w
  have Hr := Lib.hid (alloc_new' w (.cells #[.int .i64 0, .int .i64 0, .int .i64 0, .int .i64 0, .int .i64 0, .bool false, .bool false, .int .i64 0, .string ⟨#[]⟩] 31) (w.heap.size) (by simp))
  have HB' := below_alloc (o := .cells #[.int .i64 0, .int .i64 0, .int .i64 0, .int .i64 0, .int .i64 0, .bool false, .bool false, .int .i64 0, .string ⟨#[]⟩] 31) HB; clear HB; have HB := HB'; clear HB'
  go_wp2_with fail
  refine (rget_any s 13 1 n6 _ (by omega) (by omega) hs (by omega) hn6.out).mono ?_
  rintro e w' ⟨rfl, rfl⟩
  go_wp2_with fail
  refine (rget_any s 16 2 n8 _ (by omega) (by omega) hs (by omega) hn8.out).mono ?_
  rintro e w' ⟨rfl, rfl⟩
  go_wp2_with fail
  refine (rget_any s 1 4 n1 _ (by omega) (by omega) hs (by omega) hn1.out).mono ?_
  rintro e w' ⟨rfl, rfl⟩
  go_wp2_with fail
  refine (rget_any s 5 4 n2 _ (by omega) (by omega) hs (by omega) hn2.out).mono ?_
  rintro e w' ⟨rfl, rfl⟩
  go_wp2_with fail
  refine (rget_any s 9 1 n3 _ (by omega) (by omega) hs (by omega) hn3.out).mono ?_
  rintro e w' ⟨rfl, rfl⟩
  go_wp2_with fail
  refine (rget_any s 10 1 n4 _ (by omega) (by omega) hs (by omega) hn4.out).mono ?_
  rintro e w' ⟨rfl, rfl⟩
  go_wp2_with fail
  refine (rget_any s 11 2 n5 _ (by omega) (by omega) hs (by omega) hn5.out).mono ?_
  rintro e w' ⟨rfl, rfl⟩
  go_wp2_with fail
  refine (rget_any s 14 2 n7 _ (by omega) (by omega) hs (by omega) hn7.out).mono ?_
  rintro e w' ⟨rfl, rfl⟩
  have Hp := Lib.hid (alloc_new' (w.alloc (.cells #[.int .i64 0, .int .i64 0, .int .i64 0, .int .i64 0, .int .i64 0, .bool false, .bool false, .int .i64 0, .string ⟨#[]⟩] 31)) (.cells #[.int .i64 n1, .int .i64 n2, .int .i64 n3, .int .i64 n4, .int .i64 n5, .bool df, .bool mf, .int .i64 (8 * n7), .string ⟨#[]⟩] 31) (w.heap.size + 1) (by simp))
  have Hr' := Lib.hid (block_alloc Hr.out (.cells #[.int .i64 n1, .int .i64 n2, .int .i64 n3, .int .i64 n4, .int .i64 n5, .bool df, .bool mf, .int .i64 (8 * n7), .string ⟨#[]⟩] 31)); clear Hr; have Hr := Hr'; clear Hr'
  have HB' := below_alloc (o := .cells #[.int .i64 n1, .int .i64 n2, .int .i64 n3, .int .i64 n4, .int .i64 n5, .bool df, .bool mf, .int .i64 (8 * n7), .string ⟨#[]⟩] 31) HB; clear HB; have HB := HB'; clear HB'
  obtain ⟨m8, rfl⟩ := Int.eq_ofNat_of_zero_le h8
  have hd1 : decide ((4000 : Int) < ↑m8) = false := by simp; omega
  have hd2 : decide (20 + (m8 : Int) < ↑s.size) = false := by simp; omega
  go_wp2_with fail
  have Hc := Lib.hid (alloc_new' ((w.alloc (.cells #[.int .i64 0, .int .i64 0, .int .i64 0, .int .i64 0, .int .i64 0, .bool false, .bool false, .int .i64 0, .string ⟨#[]⟩] 31)).alloc (.cells #[.int .i64 n1, .int .i64 n2, .int .i64 n3, .int .i64 n4, .int .i64 n5, .bool df, .bool mf, .int .i64 (8 * n7), .string ⟨#[]⟩] 31)) (.cells #[.int .i64 n1, .int .i64 n2, .int .i64 n3, .int .i64 n4, .int .i64 n5, .bool df, .bool mf, .int .i64 (8 * n7), .string ⟨#[]⟩] 31) (w.heap.size + 1 + 1) (by simp))
  have Hr' := Lib.hid (block_alloc Hr.out (.cells #[.int .i64 n1, .int .i64 n2, .int .i64 n3, .int .i64 n4, .int .i64 n5, .bool df, .bool mf, .int .i64 (8 * n7), .string ⟨#[]⟩] 31)); clear Hr; have Hr := Hr'; clear Hr'
  have Hp' := Lib.hid (block_alloc Hp.out (.cells #[.int .i64 n1, .int .i64 n2, .int .i64 n3, .int .i64 n4, .int .i64 n5, .bool df, .bool mf, .int .i64 (8 * n7), .string ⟨#[]⟩] 31)); clear Hp; have Hp := Hp'; clear Hp'
  have HB' := below_alloc (o := .cells #[.int .i64 n1, .int .i64 n2, .int .i64 n3, .int .i64 n4, .int .i64 n5, .bool df, .bool mf, .int .i64 (8 * n7), .string ⟨#[]⟩] 31) HB; clear HB; have HB := HB'; clear HB'
  go_loopw [8] (fun i wr => ∃ k : Nat, k ≤ m8 ∧ i = .int .i64 (k : Int) ∧ Below w.heap.size w wr ∧ wr.heap[w.heap.size]? = some (.cells #[.int .i64 0, .int .i64 0, .int .i64 0, .int .i64 0, .int .i64 0, .bool false, .bool false, .int .i64 0, .string ⟨#[]⟩] 31) ∧ wr.heap[w.heap.size + 1]? = some (.cells #[.int .i64 n1, .int .i64 n2, .int .i64 n3, .int .i64 n4, .int .i64 n5, .bool df, .bool mf, .int .i64 (8 * n7), .string ⟨#[]⟩] 31) ∧ wr.heap[w.heap.size + 1 + 1]? = some (.cells #[.int .i64 n1, .int .i64 n2, .int .i64 n3, .int .i64 n4, .int .i64 n5, .bool df, .bool mf, .int .i64 (8 * n7), .string ⟨(List.replicate k 120).toArray⟩] 31)) (fun i _ => m8 - (intOf i).toNat)
  case atStart => exact ⟨0, by omega, rfl, HB, Hr.out, Hp.out, Hc.out⟩
  case round =>
    clear HB Hr Hp Hc
    obtain ⟨k, hk, rfl, HB, Hr, Hp, Hc⟩ := hrel
    have Hr := Lib.hid Hr; have Hp := Lib.hid Hp; have Hc := Lib.hid Hc
    by_cases hlt : k < m8
    · have qc8 := (cell_of_block (k := 8) Hc.out rfl).1; have zc8 := (cell_of_block (k := 8) Hc.out rfl).2
      have hz1 : ¬ 9223372036854775807 < k + 1 := by omega
      go_wp2_with fail
      go_roundw
      case rel => exact ⟨k + 1, by omega, by go_num, Below.setCell HB (by simp; omega) _, block_set_other Hr.out (by simp; omega), block_set_other Hp.out (by simp), cells_eq (block_setCell (k := 8) Hc.out) (by rw [rep_snoc]; rfl)⟩
      case measure => simp [intOf]; omega
    · obtain rfl : k = m8 := by omega
      generalize hX : List.replicate k (120 : UInt8) = X at *
      have hXl : (X.length : Int) = k := by rw [← hX]; simp
      clear hX
      have hX1 : X.length ≤ 4000 := by omega
      have HXl := Lib.hid hXl; clear hXl
      have Sc := cells9 Hc.out
      obtain ⟨⟨qc0, qc1, qc2, qc3, qc4, qc5, qc6, qc7, qc8⟩, zc0, zc1, zc2, zc3, zc4, zc5, zc6, zc7, zc8⟩ := Sc
      have lt_c := blk_lt Hc.out
      go_wp2_with fail
      clear qc0 zc0 qc1 zc1 qc2 zc2 qc3 zc3 qc4 zc4 qc5 zc5 qc6 zc6 qc7 zc7 qc8 zc8
      refine (HV.out X _ HXl.out).mono ?_
      rintro e w1 ⟨rfl, hb⟩
      have Hr' := Lib.hid (bblock hb Hr.out); clear Hr; have Hr := Hr'; clear Hr'
      have Hp' := Lib.hid (bblock hb Hp.out); clear Hp; have Hp := Hp'; clear Hp'
      have Hc' := Lib.hid (bblock hb Hc.out); clear Hc; have Hc := Hc'; clear Hc'
      have HB' := below_call HB hb; clear HB hb; have HB := HB'; clear HB'; have hz1 := HB.size
      have lt_r_1 := blk_lt Hr.out
      have lt_p_1 := blk_lt Hp.out
      have lt_c_1 := blk_lt Hc.out
      go_wp2_with fail
      go_quiet (fail)
      have Sr := cells9 Hr.out
      obtain ⟨⟨qr0, qr1, qr2, qr3, qr4, qr5, qr6, qr7, qr8⟩, zr0, zr1, zr2, zr3, zr4, zr5, zr6, zr7, zr8⟩ := Sr
      have lt_r := blk_lt Hr.out
      go_wp2_with fail
      have HrD : (w1.drewN nq).heap[w.heap.size]? = some (.cells #[.int .i64 0, .int .i64 0, .int .i64 0, .int .i64 0, .int .i64 0, .bool false, .bool false, .int .i64 0, .string ⟨#[]⟩] 31) := Hr.out
      have HBD := below_drewN HB nq
      have HZ := cells_eq (b := #[.int .i64 0, .int .i64 0, .int .i64 0, .int .i64 0, .int .i64 0, .bool false, .bool false, .int .i64 0, .string ⟨#[]⟩]) (block_setCell (k := 8) (v := .string ⟨#[]⟩) (block_setCell (k := 7) (v := .int .i64 0) (block_setCell (k := 6) (v := .bool false) (block_setCell (k := 5) (v := .bool false) (block_setCell (k := 4) (v := .int .i64 0) (block_setCell (k := 3) (v := .int .i64 0) (block_setCell (k := 2) (v := .int .i64 0) (block_setCell (k := 1) (v := .int .i64 0) (block_setCell (k := 0) (v := .int .i64 0) HrD))))))))) rfl
      refine bodyPost_ret (v := .tuple #[.agg #[.int .i64 0, .int .i64 0, .int .i64 0, .int .i64 0, .int .i64 0, .bool false, .bool false, .int .i64 0, .string ⟨#[]⟩], .int .i64 60]) ?_ rfl ⟨rfl, (Below.setCell (Below.setCell (Below.setCell (Below.setCell (Below.setCell (Below.setCell (Below.setCell (Below.setCell (Below.setCell HBD (by simp) _) (by simp) _) (by simp) _) (by simp) _) (by simp) _) (by simp) _) (by simp) _) (by simp) _) (by simp) _)⟩
      exact res_cell_tmp Tryd.results46 HZ rfl Tryd.underlying31 rfl (by kernel_rfl)

set_option maxRecDepth 100000 in
set_option maxHeartbeats 4000000 in
theorem rDH_hdr (s : ByteArray) (w : World) (n1 n2 n3 n4 n5 n6 n7 n8 : Int) (df mf : Bool) (h20 : 20 ≤ s.size) (hs : s.size ≤ 9223372036854775807) (hn6 : Hid (nAt s 13 1 = n6)) (hn8 : Hid (nAt s 16 2 = n8)) (hn1 : Hid (nAt s 1 4 = n1)) (hn2 : Hid (nAt s 5 4 = n2)) (hn3 : Hid (nAt s 9 1 = n3)) (hn4 : Hid (nAt s 10 1 = n4)) (hn5 : Hid (nAt s 11 2 = n5)) (hn7 : Hid (nAt s 14 2 = n7)) (h6 : 0 ≤ n6) (h6b : n6 ≤ 255) (h7 : 0 ≤ n7) (h7b : n7 ≤ 65535) (h8 : 0 ≤ n8) (h8b : n8 ≤ 65535) (hdf : (n6 % 2 == 1) = df) (hmf : (n6 / 2 % 2 == 1) = mf) (hb : n8 ≤ 4000) (hb2 : (s.size : Int) ≤ 20 + n8) (HV : Hid (∀ (X : List UInt8) (w : World), (X.length : Int) = n8 → Calls Tryd.prog 52 #[.agg #[.int .i64 n1, .int .i64 n2, .int .i64 n3, .int .i64 n4, .int .i64 n5, .bool df, .bool mf, .int .i64 (8 * n7), .string ⟨X.toArray⟩]] w fun e w' => e = .returned (.bool true) ∧ Below w.heap.size w w')) (R : List UInt8) (HH : Hid (∀ (X : List UInt8) (w : World), (X.length : Int) = n8 → Calls Tryd.prog 76 #[.agg #[.int .i64 n1, .int .i64 n2, .int .i64 n3, .int .i64 n4, .int .i64 n5, .bool df, .bool mf, .int .i64 (8 * n7), .string ⟨X.toArray⟩], .int .i64 n8] w fun e w' => e = .returned (.string ⟨R.toArray⟩) ∧ Below w.heap.size w w')) (hR : (R == (s.extract 0 20).toList) = false) :
    Calls Tryd.prog 46 #[.string s] w fun e w' => e = .returned (.tuple #[.agg #[.int .i64 0, .int .i64 0, .int .i64 0, .int .i64 0, .int .i64 0, .bool false, .bool false, .int .i64 0, .string ⟨#[]⟩], .int .i64 60]) ∧ Below w.heap.size w w' := by
  have h20i : decide ((s.size : Int) < 20) = false := by simp; omega
  go_enter Tryd.func46, Tryd.ntmps46
  have HB := Below.refl w.heap.size w
  have Hr := Lib.hid (alloc_new' w (.cells #[.int .i64 0, .int .i64 0, .int .i64 0, .int .i64 0, .int .i64 0, .bool false, .bool false, .int .i64 0, .string ⟨#[]⟩] 31) (w.heap.size) (by simp))
  have HB' := below_alloc (o := .cells #[.int .i64 0, .int .i64 0, .int .i64 0, .int .i64 0, .int .i64 0, .bool false, .bool false, .int .i64 0, .string ⟨#[]⟩] 31) HB; clear HB; have HB := HB'; clear HB'
  go_wp2_with fail
  refine (rget_any s 13 1 n6 _ (by omega) (by omega) hs (by omega) hn6.out).mono ?_
  rintro e w' ⟨rfl, rfl⟩
  go_wp2_with fail
  refine (rget_any s 16 2 n8 _ (by omega) (by omega) hs (by omega) hn8.out).mono ?_
  rintro e w' ⟨rfl, rfl⟩
  go_wp2_with fail
  refine (rget_any s 1 4 n1 _ (by omega) (by omega) hs (by omega) hn1.out).mono ?_
  rintro e w' ⟨rfl, rfl⟩
  go_wp2_with fail
  refine (rget_any s 5 4 n2 _ (by omega) (by omega) hs (by omega) hn2.out).mono ?_
  rintro e w' ⟨rfl, rfl⟩
  go_wp2_with fail
  refine (rget_any s 9 1 n3 _ (by omega) (by omega) hs (by omega) hn3.out).mono ?_
  rintro e w' ⟨rfl, rfl⟩
  go_wp2_with fail
  refine (rget_any s 10 1 n4 _ (by omega) (by omega) hs (by omega) hn4.out).mono ?_
  rintro e w' ⟨rfl, rfl⟩
  go_wp2_with fail
  refine (rget_any s 11 2 n5 _ (by omega) (by omega) hs (by omega) hn5.out).mono ?_
  rintro e w' ⟨rfl, rfl⟩
  go_wp2_with fail
  refine (rget_any s 14 2 n7 _ (by omega) (by omega) hs (by omega) hn7.out).mono ?_
  rintro e w' ⟨rfl, rfl⟩
  have Hp := Lib.hid (alloc_new' (w.alloc (.cells #[.int .i64 0, .int .i64 0, .int .i64 0, .int .i64 0, .int .i64 0, .bool false, .bool false, .int .i64 0, .string ⟨#[]⟩] 31)) (.cells #[.int .i64 n1, .int .i64 n2, .int .i64 n3, .int .i64 n4, .int .i64 n5, .bool df, .bool mf, .int .i64 (8 * n7), .string ⟨#[]⟩] 31) (w.heap.size + 1) (by simp))
  have Hr' := Lib.hid (block_alloc Hr.out (.cells #[.int .i64 n1, .int .i64 n2, .int .i64 n3, .int .i64 n4, .int .i64 n5, .bool df, .bool mf, .int .i64 (8 * n7), .string ⟨#[]⟩] 31)); clear Hr; have Hr := Hr'; clear Hr'
  have HB' := below_alloc (o := .cells #[.int .i64 n1, .int .i64 n2, .int .i64 n3, .int .i64 n4, .int .i64 n5, .bool df, .bool mf, .int .i64 (8 * n7), .string ⟨#[]⟩] 31) HB; clear HB; have HB := HB'; clear HB'
  obtain ⟨m8, rfl⟩ := Int.eq_ofNat_of_zero_le h8
  have hd1 : decide ((4000 : Int) < ↑m8) = false := by simp; omega
  have hd2 : decide (20 + (m8 : Int) < ↑s.size) = false := by simp; omega
  go_wp2_with fail
  have Hc := Lib.hid (alloc_new' ((w.alloc (.cells #[.int .i64 0, .int .i64 0, .int .i64 0, .int .i64 0, .int .i64 0, .bool false, .bool false, .int .i64 0, .string ⟨#[]⟩] 31)).alloc (.cells #[.int .i64 n1, .int .i64 n2, .int .i64 n3, .int .i64 n4, .int .i64 n5, .bool df, .bool mf, .int .i64 (8 * n7), .string ⟨#[]⟩] 31)) (.cells #[.int .i64 n1, .int .i64 n2, .int .i64 n3, .int .i64 n4, .int .i64 n5, .bool df, .bool mf, .int .i64 (8 * n7), .string ⟨#[]⟩] 31) (w.heap.size + 1 + 1) (by simp))
  have Hr' := Lib.hid (block_alloc Hr.out (.cells #[.int .i64 n1, .int .i64 n2, .int .i64 n3, .int .i64 n4, .int .i64 n5, .bool df, .bool mf, .int .i64 (8 * n7), .string ⟨#[]⟩] 31)); clear Hr; have Hr := Hr'; clear Hr'
  have Hp' := Lib.hid (block_alloc Hp.out (.cells #[.int .i64 n1, .int .i64 n2, .int .i64 n3, .int .i64 n4, .int .i64 n5, .bool df, .bool mf, .int .i64 (8 * n7), .string ⟨#[]⟩] 31)); clear Hp; have Hp := Hp'; clear Hp'
  have HB' := below_alloc (o := .cells #[.int .i64 n1, .int .i64 n2, .int .i64 n3, .int .i64 n4, .int .i64 n5, .bool df, .bool mf, .int .i64 (8 * n7), .string ⟨#[]⟩] 31) HB; clear HB; have HB := HB'; clear HB'
  go_loopw [8] (fun i wr => ∃ k : Nat, k ≤ m8 ∧ i = .int .i64 (k : Int) ∧ Below w.heap.size w wr ∧ wr.heap[w.heap.size]? = some (.cells #[.int .i64 0, .int .i64 0, .int .i64 0, .int .i64 0, .int .i64 0, .bool false, .bool false, .int .i64 0, .string ⟨#[]⟩] 31) ∧ wr.heap[w.heap.size + 1]? = some (.cells #[.int .i64 n1, .int .i64 n2, .int .i64 n3, .int .i64 n4, .int .i64 n5, .bool df, .bool mf, .int .i64 (8 * n7), .string ⟨#[]⟩] 31) ∧ wr.heap[w.heap.size + 1 + 1]? = some (.cells #[.int .i64 n1, .int .i64 n2, .int .i64 n3, .int .i64 n4, .int .i64 n5, .bool df, .bool mf, .int .i64 (8 * n7), .string ⟨(List.replicate k 120).toArray⟩] 31)) (fun i _ => m8 - (intOf i).toNat)
  case atStart => exact ⟨0, by omega, rfl, HB, Hr.out, Hp.out, Hc.out⟩
  case round =>
    clear HB Hr Hp Hc
    obtain ⟨k, hk, rfl, HB, Hr, Hp, Hc⟩ := hrel
    have Hr := Lib.hid Hr; have Hp := Lib.hid Hp; have Hc := Lib.hid Hc
    by_cases hlt : k < m8
    · have qc8 := (cell_of_block (k := 8) Hc.out rfl).1; have zc8 := (cell_of_block (k := 8) Hc.out rfl).2
      have hz1 : ¬ 9223372036854775807 < k + 1 := by omega
      go_wp2_with fail
      go_roundw
      case rel => exact ⟨k + 1, by omega, by go_num, Below.setCell HB (by simp; omega) _, block_set_other Hr.out (by simp; omega), block_set_other Hp.out (by simp), cells_eq (block_setCell (k := 8) Hc.out) (by rw [rep_snoc]; rfl)⟩
      case measure => simp [intOf]; omega
    · obtain rfl : k = m8 := by omega
      generalize hX : List.replicate k (120 : UInt8) = X at *
      have hXl : (X.length : Int) = k := by rw [← hX]; simp
      clear hX
      have hX1 : X.length ≤ 4000 := by omega
      have HXl := Lib.hid hXl; clear hXl
      have Sc := cells9 Hc.out
      obtain ⟨⟨qc0, qc1, qc2, qc3, qc4, qc5, qc6, qc7, qc8⟩, zc0, zc1, zc2, zc3, zc4, zc5, zc6, zc7, zc8⟩ := Sc
      have lt_c := blk_lt Hc.out
      go_wp2_with fail
      clear qc0 zc0 qc1 zc1 qc2 zc2 qc3 zc3 qc4 zc4 qc5 zc5 qc6 zc6 qc7 zc7 qc8 zc8
      refine (HV.out X _ HXl.out).mono ?_
      rintro e w1 ⟨rfl, hb⟩
      have Hr' := Lib.hid (bblock hb Hr.out); clear Hr; have Hr := Hr'; clear Hr'
      have Hp' := Lib.hid (bblock hb Hp.out); clear Hp; have Hp := Hp'; clear Hp'
      have Hc' := Lib.hid (bblock hb Hc.out); clear Hc; have Hc := Hc'; clear Hc'
      have HB' := below_call HB hb; clear HB hb; have HB := HB'; clear HB'; have hz1 := HB.size
      have lt_r_1 := blk_lt Hr.out
      have lt_p_1 := blk_lt Hp.out
      have lt_c_1 := blk_lt Hc.out
      go_wp2_with fail
      have h20j : (20 : Int) ≤ ↑s.size := by omega
      go_region_held3 (fun w' => w'.cell? ⟨w.heap.size + 1 + 1, 0, none⟩ = some (.int .i64 n1) ∧ w'.cell? ⟨w.heap.size + 1 + 1, 1, none⟩ = some (.int .i64 n2) ∧ w'.cell? ⟨w.heap.size + 1 + 1, 2, none⟩ = some (.int .i64 n3) ∧ w'.cell? ⟨w.heap.size + 1 + 1, 3, none⟩ = some (.int .i64 n4) ∧ w'.cell? ⟨w.heap.size + 1 + 1, 4, none⟩ = some (.int .i64 n5) ∧ w'.cell? ⟨w.heap.size + 1 + 1, 5, none⟩ = some (.bool df) ∧ w'.cell? ⟨w.heap.size + 1 + 1, 6, none⟩ = some (.bool mf) ∧ w'.cell? ⟨w.heap.size + 1 + 1, 7, none⟩ = some (.int .i64 (8 * n7)) ∧ w'.cell? ⟨w.heap.size + 1 + 1, 8, none⟩ = some (.string ⟨X.toArray⟩) ∧ w'.heap[w.heap.size]? = some (.cells #[.int .i64 0, .int .i64 0, .int .i64 0, .int .i64 0, .int .i64 0, .bool false, .bool false, .int .i64 0, .string ⟨#[]⟩] 31) ∧ w'.heap[w.heap.size + 1]? = some (.cells #[.int .i64 n1, .int .i64 n2, .int .i64 n3, .int .i64 n4, .int .i64 n5, .bool df, .bool mf, .int .i64 (8 * n7), .string ⟨#[]⟩] 31) ∧ w'.heap[w.heap.size + 1 + 1]? = some (.cells #[.int .i64 n1, .int .i64 n2, .int .i64 n3, .int .i64 n4, .int .i64 n5, .bool df, .bool mf, .int .i64 (8 * n7), .string ⟨X.toArray⟩] 31) ∧ Below w.heap.size w w') (first | exact ⟨(cell_of_block Hc.out rfl).1, (cell_of_block Hc.out rfl).1, (cell_of_block Hc.out rfl).1, (cell_of_block Hc.out rfl).1, (cell_of_block Hc.out rfl).1, (cell_of_block Hc.out rfl).1, (cell_of_block Hc.out rfl).1, (cell_of_block Hc.out rfl).1, (cell_of_block Hc.out rfl).1, Hr.out, Hp.out, Hc.out, HB.drew⟩ | (go_split_ands; exact ⟨by assumption, by assumption, by assumption, by assumption, by assumption, by assumption, by assumption, by assumption, by assumption, by assumption, by assumption, by assumption, by assumption⟩) | (go_split_ands; exact ⟨bcell (by assumption) (by assumption), bcell (by assumption) (by assumption), bcell (by assumption) (by assumption), bcell (by assumption) (by assumption), bcell (by assumption) (by assumption), bcell (by assumption) (by assumption), bcell (by assumption) (by assumption), bcell (by assumption) (by assumption), bcell (by assumption) (by assumption), bblock (by assumption) (by assumption), bblock (by assumption) (by assumption), bblock (by assumption) (by assumption), below_call (by assumption) (by assumption)⟩) | (go_split_ands; exact ⟨cell_alloc' _ (by assumption), cell_alloc' _ (by assumption), cell_alloc' _ (by assumption), cell_alloc' _ (by assumption), cell_alloc' _ (by assumption), cell_alloc' _ (by assumption), cell_alloc' _ (by assumption), cell_alloc' _ (by assumption), cell_alloc' _ (by assumption), block_alloc (by assumption) _, block_alloc (by assumption) _, block_alloc (by assumption) _, below_alloc (by assumption)⟩))
        (first | (go_at_call 76; refine (HH.out X _ HXl.out).mono ?_; rintro e w9 ⟨rfl, hb9⟩))
      rename_i hH
      obtain ⟨k0_, k1_, k2_, k3_, k4_, k5_, k6_, k7_, k8_, k9_, k10_, k11_, HB'⟩ := hH
      clear Hr; have Hr := Lib.hid k9_
      clear Hp; have Hp := Lib.hid k10_
      clear Hc; have Hc := Lib.hid k11_
      clear k0_ k1_ k2_ k3_ k4_ k5_ k6_ k7_ k8_ k9_ k10_ k11_
      clear HB; have HB := HB'; clear HB'
      have hz := HB.size
      have Sr := cells9 Hr.out
      obtain ⟨⟨qr0, qr1, qr2, qr3, qr4, qr5, qr6, qr7, qr8⟩, zr0, zr1, zr2, zr3, zr4, zr5, zr6, zr7, zr8⟩ := Sr
      have lt_r := blk_lt Hr.out
      go_wp2_with fail
      have HZ := cells_eq (b := #[.int .i64 0, .int .i64 0, .int .i64 0, .int .i64 0, .int .i64 0, .bool false, .bool false, .int .i64 0, .string ⟨#[]⟩]) (block_setCell (k := 8) (v := .string ⟨#[]⟩) (block_setCell (k := 7) (v := .int .i64 0) (block_setCell (k := 6) (v := .bool false) (block_setCell (k := 5) (v := .bool false) (block_setCell (k := 4) (v := .int .i64 0) (block_setCell (k := 3) (v := .int .i64 0) (block_setCell (k := 2) (v := .int .i64 0) (block_setCell (k := 1) (v := .int .i64 0) (block_setCell (k := 0) (v := .int .i64 0) Hr.out))))))))) rfl
      refine bodyPost_ret (v := .tuple #[.agg #[.int .i64 0, .int .i64 0, .int .i64 0, .int .i64 0, .int .i64 0, .bool false, .bool false, .int .i64 0, .string ⟨#[]⟩], .int .i64 60]) ?_ rfl ⟨rfl, (Below.setCell (Below.setCell (Below.setCell (Below.setCell (Below.setCell (Below.setCell (Below.setCell (Below.setCell (Below.setCell HB (by simp) _) (by simp) _) (by simp) _) (by simp) _) (by simp) _) (by simp) _) (by simp) _) (by simp) _) (by simp) _)⟩
      exact res_cell_tmp Tryd.results46 HZ rfl Tryd.underlying31 rfl (by kernel_rfl)

set_option maxRecDepth 100000 in
set_option maxHeartbeats 4000000 in
theorem rDH_ok (s : ByteArray) (w : World) (n1 n2 n3 n4 n5 n6 n7 n8 : Int) (df mf : Bool) (h20 : 20 ≤ s.size) (hs : s.size ≤ 9223372036854775807) (hn6 : Hid (nAt s 13 1 = n6)) (hn8 : Hid (nAt s 16 2 = n8)) (hn1 : Hid (nAt s 1 4 = n1)) (hn2 : Hid (nAt s 5 4 = n2)) (hn3 : Hid (nAt s 9 1 = n3)) (hn4 : Hid (nAt s 10 1 = n4)) (hn5 : Hid (nAt s 11 2 = n5)) (hn7 : Hid (nAt s 14 2 = n7)) (h6 : 0 ≤ n6) (h6b : n6 ≤ 255) (h7 : 0 ≤ n7) (h7b : n7 ≤ 65535) (h8 : 0 ≤ n8) (h8b : n8 ≤ 65535) (hdf : (n6 % 2 == 1) = df) (hmf : (n6 / 2 % 2 == 1) = mf) (hb : n8 ≤ 4000) (hb2 : (s.size : Int) ≤ 20 + n8) (HV : Hid (∀ (X : List UInt8) (w : World), (X.length : Int) = n8 → Calls Tryd.prog 52 #[.agg #[.int .i64 n1, .int .i64 n2, .int .i64 n3, .int .i64 n4, .int .i64 n5, .bool df, .bool mf, .int .i64 (8 * n7), .string ⟨X.toArray⟩]] w fun e w' => e = .returned (.bool true) ∧ Below w.heap.size w w')) (R : List UInt8) (HH : Hid (∀ (X : List UInt8) (w : World), (X.length : Int) = n8 → Calls Tryd.prog 76 #[.agg #[.int .i64 n1, .int .i64 n2, .int .i64 n3, .int .i64 n4, .int .i64 n5, .bool df, .bool mf, .int .i64 (8 * n7), .string ⟨X.toArray⟩], .int .i64 n8] w fun e w' => e = .returned (.string ⟨R.toArray⟩) ∧ Below w.heap.size w w')) (hR : Hid (R = (s.extract 0 20).toList)) :
    Calls Tryd.prog 46 #[.string s] w fun e w' => e = .returned (.tuple #[.agg #[.int .i64 n1, .int .i64 n2, .int .i64 n3, .int .i64 n4, .int .i64 n5, .bool df, .bool mf, .int .i64 (8 * n7), .string (s.extract 20 s.size)], .int .i64 0]) ∧ Below w.heap.size w w' := by
  have h20i : decide ((s.size : Int) < 20) = false := by simp; omega
  go_enter Tryd.func46, Tryd.ntmps46
  have HB := Below.refl w.heap.size w
  have Hr := Lib.hid (alloc_new' w (.cells #[.int .i64 0, .int .i64 0, .int .i64 0, .int .i64 0, .int .i64 0, .bool false, .bool false, .int .i64 0, .string ⟨#[]⟩] 31) (w.heap.size) (by simp))
  have HB' := below_alloc (o := .cells #[.int .i64 0, .int .i64 0, .int .i64 0, .int .i64 0, .int .i64 0, .bool false, .bool false, .int .i64 0, .string ⟨#[]⟩] 31) HB; clear HB; have HB := HB'; clear HB'
  go_wp2_with fail
  refine (rget_any s 13 1 n6 _ (by omega) (by omega) hs (by omega) hn6.out).mono ?_
  rintro e w' ⟨rfl, rfl⟩
  go_wp2_with fail
  refine (rget_any s 16 2 n8 _ (by omega) (by omega) hs (by omega) hn8.out).mono ?_
  rintro e w' ⟨rfl, rfl⟩
  go_wp2_with fail
  refine (rget_any s 1 4 n1 _ (by omega) (by omega) hs (by omega) hn1.out).mono ?_
  rintro e w' ⟨rfl, rfl⟩
  go_wp2_with fail
  refine (rget_any s 5 4 n2 _ (by omega) (by omega) hs (by omega) hn2.out).mono ?_
  rintro e w' ⟨rfl, rfl⟩
  go_wp2_with fail
  refine (rget_any s 9 1 n3 _ (by omega) (by omega) hs (by omega) hn3.out).mono ?_
  rintro e w' ⟨rfl, rfl⟩
  go_wp2_with fail
  refine (rget_any s 10 1 n4 _ (by omega) (by omega) hs (by omega) hn4.out).mono ?_
  rintro e w' ⟨rfl, rfl⟩
  go_wp2_with fail
  refine (rget_any s 11 2 n5 _ (by omega) (by omega) hs (by omega) hn5.out).mono ?_
  rintro e w' ⟨rfl, rfl⟩
  go_wp2_with fail
  refine (rget_any s 14 2 n7 _ (by omega) (by omega) hs (by omega) hn7.out).mono ?_
  rintro e w' ⟨rfl, rfl⟩
  have Hp := Lib.hid (alloc_new' (w.alloc (.cells #[.int .i64 0, .int .i64 0, .int .i64 0, .int .i64 0, .int .i64 0, .bool false, .bool false, .int .i64 0, .string ⟨#[]⟩] 31)) (.cells #[.int .i64 n1, .int .i64 n2, .int .i64 n3, .int .i64 n4, .int .i64 n5, .bool df, .bool mf, .int .i64 (8 * n7), .string ⟨#[]⟩] 31) (w.heap.size + 1) (by simp))
  have Hr' := Lib.hid (block_alloc Hr.out (.cells #[.int .i64 n1, .int .i64 n2, .int .i64 n3, .int .i64 n4, .int .i64 n5, .bool df, .bool mf, .int .i64 (8 * n7), .string ⟨#[]⟩] 31)); clear Hr; have Hr := Hr'; clear Hr'
  have HB' := below_alloc (o := .cells #[.int .i64 n1, .int .i64 n2, .int .i64 n3, .int .i64 n4, .int .i64 n5, .bool df, .bool mf, .int .i64 (8 * n7), .string ⟨#[]⟩] 31) HB; clear HB; have HB := HB'; clear HB'
  obtain ⟨m8, rfl⟩ := Int.eq_ofNat_of_zero_le h8
  have hd1 : decide ((4000 : Int) < ↑m8) = false := by simp; omega
  have hd2 : decide (20 + (m8 : Int) < ↑s.size) = false := by simp; omega
  go_wp2_with fail
  have Hc := Lib.hid (alloc_new' ((w.alloc (.cells #[.int .i64 0, .int .i64 0, .int .i64 0, .int .i64 0, .int .i64 0, .bool false, .bool false, .int .i64 0, .string ⟨#[]⟩] 31)).alloc (.cells #[.int .i64 n1, .int .i64 n2, .int .i64 n3, .int .i64 n4, .int .i64 n5, .bool df, .bool mf, .int .i64 (8 * n7), .string ⟨#[]⟩] 31)) (.cells #[.int .i64 n1, .int .i64 n2, .int .i64 n3, .int .i64 n4, .int .i64 n5, .bool df, .bool mf, .int .i64 (8 * n7), .string ⟨#[]⟩] 31) (w.heap.size + 1 + 1) (by simp))
  have Hr' := Lib.hid (block_alloc Hr.out (.cells #[.int .i64 n1, .int .i64 n2, .int .i64 n3, .int .i64 n4, .int .i64 n5, .bool df, .bool mf, .int .i64 (8 * n7), .string ⟨#[]⟩] 31)); clear Hr; have Hr := Hr'; clear Hr'
  have Hp' := Lib.hid (block_alloc Hp.out (.cells #[.int .i64 n1, .int .i64 n2, .int .i64 n3, .int .i64 n4, .int .i64 n5, .bool df, .bool mf, .int .i64 (8 * n7), .string ⟨#[]⟩] 31)); clear Hp; have Hp := Hp'; clear Hp'
  have HB' := below_alloc (o := .cells #[.int .i64 n1, .int .i64 n2, .int .i64 n3, .int .i64 n4, .int .i64 n5, .bool df, .bool mf, .int .i64 (8 * n7), .string ⟨#[]⟩] 31) HB; clear HB; have HB := HB'; clear HB'
  go_loopw [8] (fun i wr => ∃ k : Nat, k ≤ m8 ∧ i = .int .i64 (k : Int) ∧ Below w.heap.size w wr ∧ wr.heap[w.heap.size]? = some (.cells #[.int .i64 0, .int .i64 0, .int .i64 0, .int .i64 0, .int .i64 0, .bool false, .bool false, .int .i64 0, .string ⟨#[]⟩] 31) ∧ wr.heap[w.heap.size + 1]? = some (.cells #[.int .i64 n1, .int .i64 n2, .int .i64 n3, .int .i64 n4, .int .i64 n5, .bool df, .bool mf, .int .i64 (8 * n7), .string ⟨#[]⟩] 31) ∧ wr.heap[w.heap.size + 1 + 1]? = some (.cells #[.int .i64 n1, .int .i64 n2, .int .i64 n3, .int .i64 n4, .int .i64 n5, .bool df, .bool mf, .int .i64 (8 * n7), .string ⟨(List.replicate k 120).toArray⟩] 31)) (fun i _ => m8 - (intOf i).toNat)
  case atStart => exact ⟨0, by omega, rfl, HB, Hr.out, Hp.out, Hc.out⟩
  case round =>
    clear HB Hr Hp Hc
    obtain ⟨k, hk, rfl, HB, Hr, Hp, Hc⟩ := hrel
    have Hr := Lib.hid Hr; have Hp := Lib.hid Hp; have Hc := Lib.hid Hc
    by_cases hlt : k < m8
    · have qc8 := (cell_of_block (k := 8) Hc.out rfl).1; have zc8 := (cell_of_block (k := 8) Hc.out rfl).2
      have hz1 : ¬ 9223372036854775807 < k + 1 := by omega
      go_wp2_with fail
      go_roundw
      case rel => exact ⟨k + 1, by omega, by go_num, Below.setCell HB (by simp; omega) _, block_set_other Hr.out (by simp; omega), block_set_other Hp.out (by simp), cells_eq (block_setCell (k := 8) Hc.out) (by rw [rep_snoc]; rfl)⟩
      case measure => simp [intOf]; omega
    · obtain rfl : k = m8 := by omega
      generalize hX : List.replicate k (120 : UInt8) = X at *
      have hXl : (X.length : Int) = k := by rw [← hX]; simp
      clear hX
      have hX1 : X.length ≤ 4000 := by omega
      have HXl := Lib.hid hXl; clear hXl
      have Sc := cells9 Hc.out
      obtain ⟨⟨qc0, qc1, qc2, qc3, qc4, qc5, qc6, qc7, qc8⟩, zc0, zc1, zc2, zc3, zc4, zc5, zc6, zc7, zc8⟩ := Sc
      have lt_c := blk_lt Hc.out
      go_wp2_with fail
      clear qc0 zc0 qc1 zc1 qc2 zc2 qc3 zc3 qc4 zc4 qc5 zc5 qc6 zc6 qc7 zc7 qc8 zc8
      refine (HV.out X _ HXl.out).mono ?_
      rintro e w1 ⟨rfl, hb⟩
      have Hr' := Lib.hid (bblock hb Hr.out); clear Hr; have Hr := Hr'; clear Hr'
      have Hp' := Lib.hid (bblock hb Hp.out); clear Hp; have Hp := Hp'; clear Hp'
      have Hc' := Lib.hid (bblock hb Hc.out); clear Hc; have Hc := Hc'; clear Hc'
      have HB' := below_call HB hb; clear HB hb; have HB := HB'; clear HB'; have hz1 := HB.size
      have lt_r_1 := blk_lt Hr.out
      have lt_p_1 := blk_lt Hp.out
      have lt_c_1 := blk_lt Hc.out
      go_wp2_with fail
      have h20j : (20 : Int) ≤ ↑s.size := by omega
      go_region_held3 (fun w' => w'.cell? ⟨w.heap.size + 1 + 1, 0, none⟩ = some (.int .i64 n1) ∧ w'.cell? ⟨w.heap.size + 1 + 1, 1, none⟩ = some (.int .i64 n2) ∧ w'.cell? ⟨w.heap.size + 1 + 1, 2, none⟩ = some (.int .i64 n3) ∧ w'.cell? ⟨w.heap.size + 1 + 1, 3, none⟩ = some (.int .i64 n4) ∧ w'.cell? ⟨w.heap.size + 1 + 1, 4, none⟩ = some (.int .i64 n5) ∧ w'.cell? ⟨w.heap.size + 1 + 1, 5, none⟩ = some (.bool df) ∧ w'.cell? ⟨w.heap.size + 1 + 1, 6, none⟩ = some (.bool mf) ∧ w'.cell? ⟨w.heap.size + 1 + 1, 7, none⟩ = some (.int .i64 (8 * n7)) ∧ w'.cell? ⟨w.heap.size + 1 + 1, 8, none⟩ = some (.string ⟨X.toArray⟩) ∧ w'.heap[w.heap.size]? = some (.cells #[.int .i64 0, .int .i64 0, .int .i64 0, .int .i64 0, .int .i64 0, .bool false, .bool false, .int .i64 0, .string ⟨#[]⟩] 31) ∧ w'.heap[w.heap.size + 1]? = some (.cells #[.int .i64 n1, .int .i64 n2, .int .i64 n3, .int .i64 n4, .int .i64 n5, .bool df, .bool mf, .int .i64 (8 * n7), .string ⟨#[]⟩] 31) ∧ w'.heap[w.heap.size + 1 + 1]? = some (.cells #[.int .i64 n1, .int .i64 n2, .int .i64 n3, .int .i64 n4, .int .i64 n5, .bool df, .bool mf, .int .i64 (8 * n7), .string ⟨X.toArray⟩] 31) ∧ Below w.heap.size w w') (first | exact ⟨(cell_of_block Hc.out rfl).1, (cell_of_block Hc.out rfl).1, (cell_of_block Hc.out rfl).1, (cell_of_block Hc.out rfl).1, (cell_of_block Hc.out rfl).1, (cell_of_block Hc.out rfl).1, (cell_of_block Hc.out rfl).1, (cell_of_block Hc.out rfl).1, (cell_of_block Hc.out rfl).1, Hr.out, Hp.out, Hc.out, HB.drew⟩ | (go_split_ands; exact ⟨by assumption, by assumption, by assumption, by assumption, by assumption, by assumption, by assumption, by assumption, by assumption, by assumption, by assumption, by assumption, by assumption⟩) | (go_split_ands; exact ⟨bcell (by assumption) (by assumption), bcell (by assumption) (by assumption), bcell (by assumption) (by assumption), bcell (by assumption) (by assumption), bcell (by assumption) (by assumption), bcell (by assumption) (by assumption), bcell (by assumption) (by assumption), bcell (by assumption) (by assumption), bcell (by assumption) (by assumption), bblock (by assumption) (by assumption), bblock (by assumption) (by assumption), bblock (by assumption) (by assumption), below_call (by assumption) (by assumption)⟩) | (go_split_ands; exact ⟨cell_alloc' _ (by assumption), cell_alloc' _ (by assumption), cell_alloc' _ (by assumption), cell_alloc' _ (by assumption), cell_alloc' _ (by assumption), cell_alloc' _ (by assumption), cell_alloc' _ (by assumption), cell_alloc' _ (by assumption), cell_alloc' _ (by assumption), block_alloc (by assumption) _, block_alloc (by assumption) _, block_alloc (by assumption) _, below_alloc (by assumption)⟩))
        (first | (go_at_call 76; refine (HH.out X _ HXl.out).mono ?_; rintro e w9 ⟨rfl, hb9⟩))
      rename_i hH
      obtain ⟨k0_, k1_, k2_, k3_, k4_, k5_, k6_, k7_, k8_, k9_, k10_, k11_, HB'⟩ := hH
      clear Hr; have Hr := Lib.hid k9_
      clear Hp; have Hp := Lib.hid k10_
      clear Hc; have Hc := Lib.hid k11_
      clear k0_ k1_ k2_ k3_ k4_ k5_ k6_ k7_ k8_ k9_ k10_ k11_
      clear HB; have HB := HB'; clear HB'
      have hz := HB.size
      have hR' : (!R == (s.extract 0 20).toList) = false := by rw [← hR.out]; simp
      have Sr := cells9 Hr.out
      obtain ⟨⟨qr0, qr1, qr2, qr3, qr4, qr5, qr6, qr7, qr8⟩, zr0, zr1, zr2, zr3, zr4, zr5, zr6, zr7, zr8⟩ := Sr
      have lt_r := blk_lt Hr.out
      have Sp := cells9 Hp.out
      obtain ⟨⟨qp0, qp1, qp2, qp3, qp4, qp5, qp6, qp7, qp8⟩, zp0, zp1, zp2, zp3, zp4, zp5, zp6, zp7, zp8⟩ := Sp
      have lt_p := blk_lt Hp.out
      go_wp2_with fail
      · have hx : (!R == (s.extract 0 20).toList) = true := by assumption
        rw [hR'] at hx; cases hx
      clear qr0 zr0 qr1 zr1 qr2 zr2 qr3 zr3 qr4 zr4 qr5 zr5 qr6 zr6 qr7 zr7 qr8 zr8 qp0 zp0 qp1 zp1 qp2 zp2 qp3 zp3 qp4 zp4 qp5 zp5 qp6 zp6 qp7 zp7 qp8 zp8
      have HB0 := HB
      have Hr' := Lib.hid (block_set_other (a := ⟨w.heap.size + 1, 8, none⟩) (u := .string (s.extract 20 s.size)) Hr.out (by first | (simp; done) | (simp; omega))); clear Hr; have Hr := Hr'; clear Hr'
      have Hc' := Lib.hid (block_set_other (a := ⟨w.heap.size + 1, 8, none⟩) (u := .string (s.extract 20 s.size)) Hc.out (by first | (simp; done) | (simp; omega))); clear Hc; have Hc := Hc'; clear Hc'
      have Hp' := Lib.hid (cells_eq (b := #[.int .i64 n1, .int .i64 n2, .int .i64 n3, .int .i64 n4, .int .i64 n5, .bool df, .bool mf, .int .i64 (8 * n7), .string (s.extract 20 s.size)]) (block_setCell (k := 8) (v := .string (s.extract 20 s.size)) Hp.out) rfl); clear Hp; have Hp := Hp'; clear Hp'
      have HB' := Below.setCell HB (p := ⟨w.heap.size + 1, 8, none⟩) (by first | (simp; done) | (simp; omega)) (.string (s.extract 20 s.size)); clear HB; have HB := HB'; clear HB'
      have Hp' := Lib.hid (block_set_other (a := ⟨w.heap.size, 0, none⟩) (u := .int .i64 n1) Hp.out (by first | (simp; done) | (simp; omega))); clear Hp; have Hp := Hp'; clear Hp'
      have Hc' := Lib.hid (block_set_other (a := ⟨w.heap.size, 0, none⟩) (u := .int .i64 n1) Hc.out (by first | (simp; done) | (simp; omega))); clear Hc; have Hc := Hc'; clear Hc'
      have Hr' := Lib.hid (cells_eq (b := #[.int .i64 n1, .int .i64 0, .int .i64 0, .int .i64 0, .int .i64 0, .bool false, .bool false, .int .i64 0, .string ⟨#[]⟩]) (block_setCell (k := 0) (v := .int .i64 n1) Hr.out) rfl); clear Hr; have Hr := Hr'; clear Hr'
      have HB' := Below.setCell HB (p := ⟨w.heap.size, 0, none⟩) (by first | (simp; done) | (simp; omega)) (.int .i64 n1); clear HB; have HB := HB'; clear HB'
      have Hp' := Lib.hid (block_set_other (a := ⟨w.heap.size, 1, none⟩) (u := .int .i64 n2) Hp.out (by first | (simp; done) | (simp; omega))); clear Hp; have Hp := Hp'; clear Hp'
      have Hc' := Lib.hid (block_set_other (a := ⟨w.heap.size, 1, none⟩) (u := .int .i64 n2) Hc.out (by first | (simp; done) | (simp; omega))); clear Hc; have Hc := Hc'; clear Hc'
      have Hr' := Lib.hid (cells_eq (b := #[.int .i64 n1, .int .i64 n2, .int .i64 0, .int .i64 0, .int .i64 0, .bool false, .bool false, .int .i64 0, .string ⟨#[]⟩]) (block_setCell (k := 1) (v := .int .i64 n2) Hr.out) rfl); clear Hr; have Hr := Hr'; clear Hr'
      have HB' := Below.setCell HB (p := ⟨w.heap.size, 1, none⟩) (by first | (simp; done) | (simp; omega)) (.int .i64 n2); clear HB; have HB := HB'; clear HB'
      have Hp' := Lib.hid (block_set_other (a := ⟨w.heap.size, 2, none⟩) (u := .int .i64 n3) Hp.out (by first | (simp; done) | (simp; omega))); clear Hp; have Hp := Hp'; clear Hp'
      have Hc' := Lib.hid (block_set_other (a := ⟨w.heap.size, 2, none⟩) (u := .int .i64 n3) Hc.out (by first | (simp; done) | (simp; omega))); clear Hc; have Hc := Hc'; clear Hc'
      have Hr' := Lib.hid (cells_eq (b := #[.int .i64 n1, .int .i64 n2, .int .i64 n3, .int .i64 0, .int .i64 0, .bool false, .bool false, .int .i64 0, .string ⟨#[]⟩]) (block_setCell (k := 2) (v := .int .i64 n3) Hr.out) rfl); clear Hr; have Hr := Hr'; clear Hr'
      have HB' := Below.setCell HB (p := ⟨w.heap.size, 2, none⟩) (by first | (simp; done) | (simp; omega)) (.int .i64 n3); clear HB; have HB := HB'; clear HB'
      have Hp' := Lib.hid (block_set_other (a := ⟨w.heap.size, 3, none⟩) (u := .int .i64 n4) Hp.out (by first | (simp; done) | (simp; omega))); clear Hp; have Hp := Hp'; clear Hp'
      have Hc' := Lib.hid (block_set_other (a := ⟨w.heap.size, 3, none⟩) (u := .int .i64 n4) Hc.out (by first | (simp; done) | (simp; omega))); clear Hc; have Hc := Hc'; clear Hc'
      have Hr' := Lib.hid (cells_eq (b := #[.int .i64 n1, .int .i64 n2, .int .i64 n3, .int .i64 n4, .int .i64 0, .bool false, .bool false, .int .i64 0, .string ⟨#[]⟩]) (block_setCell (k := 3) (v := .int .i64 n4) Hr.out) rfl); clear Hr; have Hr := Hr'; clear Hr'
      have HB' := Below.setCell HB (p := ⟨w.heap.size, 3, none⟩) (by first | (simp; done) | (simp; omega)) (.int .i64 n4); clear HB; have HB := HB'; clear HB'
      have Hp' := Lib.hid (block_set_other (a := ⟨w.heap.size, 4, none⟩) (u := .int .i64 n5) Hp.out (by first | (simp; done) | (simp; omega))); clear Hp; have Hp := Hp'; clear Hp'
      have Hc' := Lib.hid (block_set_other (a := ⟨w.heap.size, 4, none⟩) (u := .int .i64 n5) Hc.out (by first | (simp; done) | (simp; omega))); clear Hc; have Hc := Hc'; clear Hc'
      have Hr' := Lib.hid (cells_eq (b := #[.int .i64 n1, .int .i64 n2, .int .i64 n3, .int .i64 n4, .int .i64 n5, .bool false, .bool false, .int .i64 0, .string ⟨#[]⟩]) (block_setCell (k := 4) (v := .int .i64 n5) Hr.out) rfl); clear Hr; have Hr := Hr'; clear Hr'
      have HB' := Below.setCell HB (p := ⟨w.heap.size, 4, none⟩) (by first | (simp; done) | (simp; omega)) (.int .i64 n5); clear HB; have HB := HB'; clear HB'
      have Hp' := Lib.hid (block_set_other (a := ⟨w.heap.size, 5, none⟩) (u := .bool df) Hp.out (by first | (simp; done) | (simp; omega))); clear Hp; have Hp := Hp'; clear Hp'
      have Hc' := Lib.hid (block_set_other (a := ⟨w.heap.size, 5, none⟩) (u := .bool df) Hc.out (by first | (simp; done) | (simp; omega))); clear Hc; have Hc := Hc'; clear Hc'
      have Hr' := Lib.hid (cells_eq (b := #[.int .i64 n1, .int .i64 n2, .int .i64 n3, .int .i64 n4, .int .i64 n5, .bool df, .bool false, .int .i64 0, .string ⟨#[]⟩]) (block_setCell (k := 5) (v := .bool df) Hr.out) rfl); clear Hr; have Hr := Hr'; clear Hr'
      have HB' := Below.setCell HB (p := ⟨w.heap.size, 5, none⟩) (by first | (simp; done) | (simp; omega)) (.bool df); clear HB; have HB := HB'; clear HB'
      have Hp' := Lib.hid (block_set_other (a := ⟨w.heap.size, 6, none⟩) (u := .bool mf) Hp.out (by first | (simp; done) | (simp; omega))); clear Hp; have Hp := Hp'; clear Hp'
      have Hc' := Lib.hid (block_set_other (a := ⟨w.heap.size, 6, none⟩) (u := .bool mf) Hc.out (by first | (simp; done) | (simp; omega))); clear Hc; have Hc := Hc'; clear Hc'
      have Hr' := Lib.hid (cells_eq (b := #[.int .i64 n1, .int .i64 n2, .int .i64 n3, .int .i64 n4, .int .i64 n5, .bool df, .bool mf, .int .i64 0, .string ⟨#[]⟩]) (block_setCell (k := 6) (v := .bool mf) Hr.out) rfl); clear Hr; have Hr := Hr'; clear Hr'
      have HB' := Below.setCell HB (p := ⟨w.heap.size, 6, none⟩) (by first | (simp; done) | (simp; omega)) (.bool mf); clear HB; have HB := HB'; clear HB'
      have Hp' := Lib.hid (block_set_other (a := ⟨w.heap.size, 7, none⟩) (u := .int .i64 (8 * n7)) Hp.out (by first | (simp; done) | (simp; omega))); clear Hp; have Hp := Hp'; clear Hp'
      have Hc' := Lib.hid (block_set_other (a := ⟨w.heap.size, 7, none⟩) (u := .int .i64 (8 * n7)) Hc.out (by first | (simp; done) | (simp; omega))); clear Hc; have Hc := Hc'; clear Hc'
      have Hr' := Lib.hid (cells_eq (b := #[.int .i64 n1, .int .i64 n2, .int .i64 n3, .int .i64 n4, .int .i64 n5, .bool df, .bool mf, .int .i64 (8 * n7), .string ⟨#[]⟩]) (block_setCell (k := 7) (v := .int .i64 (8 * n7)) Hr.out) rfl); clear Hr; have Hr := Hr'; clear Hr'
      have HB' := Below.setCell HB (p := ⟨w.heap.size, 7, none⟩) (by first | (simp; done) | (simp; omega)) (.int .i64 (8 * n7)); clear HB; have HB := HB'; clear HB'
      have Hp' := Lib.hid (block_set_other (a := ⟨w.heap.size, 8, none⟩) (u := .string (s.extract 20 s.size)) Hp.out (by first | (simp; done) | (simp; omega))); clear Hp; have Hp := Hp'; clear Hp'
      have Hc' := Lib.hid (block_set_other (a := ⟨w.heap.size, 8, none⟩) (u := .string (s.extract 20 s.size)) Hc.out (by first | (simp; done) | (simp; omega))); clear Hc; have Hc := Hc'; clear Hc'
      have Hr' := Lib.hid (cells_eq (b := #[.int .i64 n1, .int .i64 n2, .int .i64 n3, .int .i64 n4, .int .i64 n5, .bool df, .bool mf, .int .i64 (8 * n7), .string (s.extract 20 s.size)]) (block_setCell (k := 8) (v := .string (s.extract 20 s.size)) Hr.out) rfl); clear Hr; have Hr := Hr'; clear Hr'
      have HB' := Below.setCell HB (p := ⟨w.heap.size, 8, none⟩) (by first | (simp; done) | (simp; omega)) (.string (s.extract 20 s.size)); clear HB; have HB := HB'; clear HB'
      refine bodyPost_ret (v := .tuple #[.agg #[.int .i64 n1, .int .i64 n2, .int .i64 n3, .int .i64 n4, .int .i64 n5, .bool df, .bool mf, .int .i64 (8 * n7), .string (s.extract 20 s.size)], .int .i64 0]) ?_ rfl ⟨rfl, (Below.setCell (Below.setCell (Below.setCell (Below.setCell (Below.setCell (Below.setCell (Below.setCell (Below.setCell (Below.setCell (Below.setCell HB0 (by simp) _) (by simp) _) (by simp) _) (by simp) _) (by simp) _) (by simp) _) (by simp) _) (by simp) _) (by simp) _) (by simp) _)⟩
      exact res_cell_tmp Tryd.results46 Hr.out rfl Tryd.underlying31 rfl (by kernel_rfl)

end Go.Proofs.YtmcfllogcmnnoaaDoor.Ip
