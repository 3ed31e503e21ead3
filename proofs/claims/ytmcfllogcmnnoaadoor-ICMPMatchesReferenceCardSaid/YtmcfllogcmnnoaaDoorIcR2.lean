/-
  Contracts of the reference of chapter 8: bytes and Encode give what the program's Encode gives.
-/
import Derived.Test.YtmcfllogcmnnoaaDoorIcR1
import Derived.Test.YtmcfllogcmnnoaaDoorIcL
namespace Go.Proofs.YtmcfllogcmnnoaaDoor.Ic
set_option maxRecDepth 100000
open Go.RowKit Go.Proofs.YtmcfllogcmnnoaaDoor.Wire

set_option maxHeartbeats 4000000 in
theorem rMbytes_any (k c n : Int) (s : ByteArray) (sm : Int) (w : World) (h : MOk k c n s.size) (h0 : 0 ≤ sm) (h1 : sm < 65536) :
    Calls Tryd.prog 38 #[.agg #[.int .i64 k, .int .i64 c, .int .i64 n, .string s], .int .i64 sm] w fun e w' => e = .returned (.string ⟨(mbytes k c n s sm).toArray⟩) ∧ Below w.heap.size w w' := by
  obtain ⟨hk, hc, hn, hsz⟩ := h.bd
  clear h
  go_enter Tryd.func38, Tryd.ntmps38
  have HB := Below.refl w.heap.size w
  have Hx := Lib.hid (alloc_new' w (.cells #[.int .i64 k, .int .i64 c, .int .i64 n, .string s] 23) (w.heap.size) (by simp))
  have HB' := below_alloc (o := .cells #[.int .i64 k, .int .i64 c, .int .i64 n, .string s] 23) HB; clear HB; have HB := HB'; clear HB'
  have HP0 := Lib.hid fun W => rIcPut_any k 1 W (by omega) (by omega) (by omega) (by show _ < 256 ^ 1; omega)
  rw [show ((1 : Int)).toNat = 1 from rfl] at HP0
  have l0 : (be 1 k).length = 1 := be_length _ _
  have HP1 := Lib.hid fun W => rIcPut_any c 1 W (by omega) (by omega) (by omega) (by show _ < 256 ^ 1; omega)
  rw [show ((1 : Int)).toNat = 1 from rfl] at HP1
  have l1 : (be 1 c).length = 1 := be_length _ _
  have HP2 := Lib.hid fun W => rIcPut_any sm 2 W (by omega) (by omega) (by omega) (by show _ < 256 ^ 2; omega)
  rw [show ((2 : Int)).toNat = 2 from rfl] at HP2
  have l2 : (be 2 sm).length = 2 := be_length _ _
  have HP3 := Lib.hid fun W => rIcPut_any n 4 W (by omega) (by omega) (by omega) (by show _ < 256 ^ 4; omega)
  rw [show ((4 : Int)).toNat = 4 from rfl] at HP3
  have l3 : (be 4 n).length = 4 := be_length _ _
  have HF : Hid ((⟨(be 1 k).toArray⟩ : ByteArray) ++ ⟨(be 1 c).toArray⟩ ++ ⟨(be 2 sm).toArray⟩ ++ ⟨(be 4 n).toArray⟩ ++ s = ⟨(mbytes k c n s sm).toArray⟩) := Lib.hid (by rw [ba_append, ba_append, ba_append, ba_left, mbytes_eq]; simp only [List.append_assoc])
  generalize (⟨(mbytes k c n s sm).toArray⟩ : ByteArray) = OUT at *
  generalize be 1 k = B0 at *
  generalize be 1 c = B1 at *
  generalize be 2 sm = B2 at *
  generalize be 4 n = B3 at *
  have z0 : ¬ 9223372036854775807 < B0.length + B1.length := by omega
  have z1 : ¬ 9223372036854775807 < B0.length + B1.length + B2.length := by omega
  have z2 : ¬ 9223372036854775807 < B0.length + B1.length + B2.length + B3.length := by omega
  have z3 : ¬ 9223372036854775807 < B0.length + B1.length + B2.length + B3.length + s.size := by omega
  clear l0 l1 l2 l3
  go_upto_region 1 with fail
  generalize w.alloc (.cells #[.int .i64 k, .int .i64 c, .int .i64 n, .string s] 23) = W1 at *
  have HR := Below.refl W1.heap.size W1
  have gx0 : Hid (W1.cell? ⟨w.heap.size, 0, none⟩ = some (.int .i64 k)) := Lib.hid (cell_of_block (k := 0) Hx.out rfl).1
  have gx1 : Hid (W1.cell? ⟨w.heap.size, 1, none⟩ = some (.int .i64 c)) := Lib.hid (cell_of_block (k := 1) Hx.out rfl).1
  have gx2 : Hid (W1.cell? ⟨w.heap.size, 2, none⟩ = some (.int .i64 n)) := Lib.hid (cell_of_block (k := 2) Hx.out rfl).1
  have gx3 : Hid (W1.cell? ⟨w.heap.size, 3, none⟩ = some (.string s)) := Lib.hid (cell_of_block (k := 3) Hx.out rfl).1
  go_region_held3 (fun w' => w'.cell? ⟨w.heap.size, 0, none⟩ = some (.int .i64 k) ∧ w'.cell? ⟨w.heap.size, 1, none⟩ = some (.int .i64 c) ∧ w'.cell? ⟨w.heap.size, 2, none⟩ = some (.int .i64 n) ∧ w'.cell? ⟨w.heap.size, 3, none⟩ = some (.string s) ∧ Below W1.heap.size W1 w') (first | with_reducible exact ⟨bcell (hRv4.out) gx0.out, bcell (hRv4.out) gx1.out, bcell (hRv4.out) gx2.out, bcell (hRv4.out) gx3.out, hRv4.out⟩ | with_reducible exact ⟨bcell (hRv3.out) gx0.out, bcell (hRv3.out) gx1.out, bcell (hRv3.out) gx2.out, bcell (hRv3.out) gx3.out, hRv3.out⟩ | with_reducible exact ⟨bcell (hRv2.out) gx0.out, bcell (hRv2.out) gx1.out, bcell (hRv2.out) gx2.out, bcell (hRv2.out) gx3.out, hRv2.out⟩ | with_reducible exact ⟨bcell (hRv1.out) gx0.out, bcell (hRv1.out) gx1.out, bcell (hRv1.out) gx2.out, bcell (hRv1.out) gx3.out, hRv1.out⟩ | exact ⟨gx0.out, gx1.out, gx2.out, gx3.out, HR.drew⟩)
    (first | (go_at_call 68; have _t := hRv3; clear _t; refine (HP3.out _).mono ?_; rintro e v4 ⟨rfl, hbv4⟩; have hRv4 := Lib.hid (below_call hRv3.out hbv4)) | (go_at_call 68; have _t := hRv2; clear _t; refine (HP2.out _).mono ?_; rintro e v3 ⟨rfl, hbv3⟩; have hRv3 := Lib.hid (below_call hRv2.out hbv3)) | (go_at_call 68; have _t := hRv1; clear _t; refine (HP1.out _).mono ?_; rintro e v2 ⟨rfl, hbv2⟩; have hRv2 := Lib.hid (below_call hRv1.out hbv2)) | (go_at_call 68; refine (HP0.out _).mono ?_; rintro e v1 ⟨rfl, hbv1⟩; have hRv1 := Lib.hid (below_call HR.drew hbv1)))
  have hb := hRv4.out
  clear HR hRv1 hbv1 hRv2 hbv2 hRv3 hbv3 hRv4 hbv4 gx0 gx1 gx2 gx3
  have Hx' := Lib.hid (bblock hb Hx.out); clear Hx; have Hx := Hx'; clear Hx'
  have HB' := below_call HB hb; clear HB hb; have HB := HB'; clear HB'; have hz := HB.size
  go_wp2_with fail
  go_ret
  exact ⟨by rw [← HF.out]; rfl, HB⟩
theorem rMEncode_no (k c n : Int) (s : ByteArray) (w : World) (hs : s.size ≤ 9223372036854775807) (h : ¬ MOk k c n s.size) :
    Calls Tryd.prog 15 #[.agg #[.int .i64 k, .int .i64 c, .int .i64 n, .string s]] w fun e w' => e = .returned (.tuple #[.string ⟨#[]⟩, .int .i64 80]) ∧ Below w.heap.size w w' := by
  have HV : Hid (∀ W, Calls Tryd.prog 21 #[.agg #[.int .i64 k, .int .i64 c, .int .i64 n, .string s]] W fun e w' => e = .returned (.bool false) ∧ Below W.heap.size W w') := Lib.hid fun W => (show mokB k c n s.size = false from decide_eq_false h) ▸ rMValid_any k c n s W hs
  have Hm := Lib.hid (alloc_new w (.cells #[.int .i64 k, .int .i64 c, .int .i64 n, .string s] 23))
  have HB := below_alloc (o := .cells #[.int .i64 k, .int .i64 c, .int .i64 n, .string s] 23) (Below.refl w.heap.size w)
  obtain ⟨⟨c0, c1, c2, c3⟩, -⟩ := cells4 Hm.out
  go_enter Tryd.func15, Tryd.ntmps15
  go_wp2_with fail
  refine (HV.out _).mono ?_
  rintro e w1 ⟨rfl, hb⟩
  go_wp2_with fail
  go_ret2
  exact ⟨rfl, below_call HB hb⟩
set_option maxHeartbeats 4000000 in
theorem rMEncode_ok (k c n : Int) (s : ByteArray) (w : World) (h : MOk k c n s.size) :
    Calls Tryd.prog 15 #[.agg #[.int .i64 k, .int .i64 c, .int .i64 n, .string s]] w fun e w' => e = .returned (.tuple #[.string ⟨(menc k c n s).toArray⟩, .int .i64 0]) ∧ Below w.heap.size w w' := by
  have hz := h.bd.2.2.2
  have HV : Hid (∀ W, Calls Tryd.prog 21 #[.agg #[.int .i64 k, .int .i64 c, .int .i64 n, .string s]] W fun e w' => e = .returned (.bool true) ∧ Below W.heap.size W w') := Lib.hid fun W => (show mokB k c n s.size = true from decide_eq_true h) ▸ rMValid_any k c n s W (by omega)
  have HB0 := Lib.hid fun W => rMbytes_any k c n s 0 W h (by omega) (by omega)
  have hms := msum_bd k c n s
  have HB1 : Hid (∀ W, Calls Tryd.prog 38 #[.agg #[.int .i64 k, .int .i64 c, .int .i64 n, .string s], .int .i64 (msum k c n s)] W fun e w' => e = .returned (.string ⟨(menc k c n s).toArray⟩) ∧ Below W.heap.size W w') := Lib.hid fun W => rMbytes_any k c n s (msum k c n s) W h hms.1 (by omega)
  have HC : Hid (∀ W, Calls Tryd.prog 39 #[.string ⟨(mbytes k c n s 0).toArray⟩] W fun e w' => e = .returned (.int .i64 (msum k c n s)) ∧ Below W.heap.size W w') := Lib.hid fun W => by
    refine (rchecksum_any ⟨(mbytes k c n s 0).toArray⟩ W (by rw [sz, mbytes_len]; omega)).mono ?_
    rintro e w' ⟨rfl, rfl⟩
    exact ⟨rfl, Below.refl _ _⟩
  clear h hz hms
  generalize (⟨(menc k c n s).toArray⟩ : ByteArray) = OUT at *
  generalize (⟨(mbytes k c n s 0).toArray⟩ : ByteArray) = T0 at *
  generalize msum k c n s = ms at *
  go_enter Tryd.func15, Tryd.ntmps15
  have HB := Below.refl w.heap.size w
  have Hx := Lib.hid (alloc_new' w (.cells #[.int .i64 k, .int .i64 c, .int .i64 n, .string s] 23) (w.heap.size) (by simp))
  have HB' := below_alloc (o := .cells #[.int .i64 k, .int .i64 c, .int .i64 n, .string s] 23) HB; clear HB; have HB := HB'; clear HB'
  have Sx := cells4 Hx.out
  obtain ⟨⟨qx0, qx1, qx2, qx3⟩, zx0, zx1, zx2, zx3⟩ := Sx
  have lt_x := blk_lt Hx.out
  go_wp2_with fail
  refine (HV.out _).mono ?_
  rintro e w1 ⟨rfl, hb⟩
  clear qx0 zx0 qx1 zx1 qx2 zx2 qx3 zx3
  have Hx' := Lib.hid (bblock hb Hx.out); clear Hx; have Hx := Hx'; clear Hx'
  have HB' := below_call HB hb; clear HB hb; have HB := HB'; clear HB'; have hz1 := HB.size
  have lt_x_1 := blk_lt Hx.out
  go_upto_region 3 with fail
  have HR := Below.refl w1.heap.size w1
  have gx0 : Hid (w1.cell? ⟨w.heap.size, 0, none⟩ = some (.int .i64 k)) := Lib.hid (cell_of_block (k := 0) Hx.out rfl).1
  have gx1 : Hid (w1.cell? ⟨w.heap.size, 1, none⟩ = some (.int .i64 c)) := Lib.hid (cell_of_block (k := 1) Hx.out rfl).1
  have gx2 : Hid (w1.cell? ⟨w.heap.size, 2, none⟩ = some (.int .i64 n)) := Lib.hid (cell_of_block (k := 2) Hx.out rfl).1
  have gx3 : Hid (w1.cell? ⟨w.heap.size, 3, none⟩ = some (.string s)) := Lib.hid (cell_of_block (k := 3) Hx.out rfl).1
  go_region_held3 (fun w' => w'.cell? ⟨w.heap.size, 0, none⟩ = some (.int .i64 k) ∧ w'.cell? ⟨w.heap.size, 1, none⟩ = some (.int .i64 c) ∧ w'.cell? ⟨w.heap.size, 2, none⟩ = some (.int .i64 n) ∧ w'.cell? ⟨w.heap.size, 3, none⟩ = some (.string s) ∧ Below w1.heap.size w1 w') (first | with_reducible exact ⟨bcell (hRv3.out) gx0.out, bcell (hRv3.out) gx1.out, bcell (hRv3.out) gx2.out, bcell (hRv3.out) gx3.out, hRv3.out⟩ | with_reducible exact ⟨bcell (hRv2.out) gx0.out, bcell (hRv2.out) gx1.out, bcell (hRv2.out) gx2.out, bcell (hRv2.out) gx3.out, hRv2.out⟩ | with_reducible exact ⟨bcell (hRv1.out) gx0.out, bcell (hRv1.out) gx1.out, bcell (hRv1.out) gx2.out, bcell (hRv1.out) gx3.out, hRv1.out⟩ | exact ⟨gx0.out, gx1.out, gx2.out, gx3.out, HR.drew⟩)
    (first | (go_at_call 38; have _t := hRv2; clear _t; refine (HB1.out _).mono ?_; rintro e v3 ⟨rfl, hbv3⟩; have hRv3 := Lib.hid (below_call hRv2.out hbv3)) | (go_at_call 39; have _t := hRv1; clear _t; refine (HC.out _).mono ?_; rintro e v2 ⟨rfl, hbv2⟩; have hRv2 := Lib.hid (below_call hRv1.out hbv2)) | (go_at_call 38; refine (HB0.out _).mono ?_; rintro e v1 ⟨rfl, hbv1⟩; have hRv1 := Lib.hid (below_call HR.drew hbv1)))
  have hb := hRv3.out
  clear HR hRv1 hbv1 hRv2 hbv2 hRv3 hbv3 gx0 gx1 gx2 gx3
  have Hx' := Lib.hid (bblock hb Hx.out); clear Hx; have Hx := Hx'; clear Hx'
  have HB' := below_call HB hb; clear HB hb; have HB := HB'; clear HB'; have hz := HB.size
  go_wp2_with fail
  go_ret2
  exact ⟨rfl, HB⟩
end Go.Proofs.YtmcfllogcmnnoaaDoor.Ic
