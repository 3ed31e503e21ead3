/-
  Contracts of the reference of chapter 6: Valid, num, head, Encode.
-/
import Derived.Test.YtmcfllogcmnnoaaDoorRef01
import Derived.Test.YtmcfllogcmnnoaaDoorIpHead
import Derived.Test.YtmcfllogcmnnoaaDoorRef06b
import Derived.Deep.RegionHeld3
import Derived.Deep.DeepCutAuto
import Derived.Deep.RegionWith
namespace Go.Proofs.YtmcfllogcmnnoaaDoor.Ip
set_option maxRecDepth 100000
open Go.RowKit Go.Proofs.YtmcfllogcmnnoaaDoor.Wire

theorem rnum_any (n : Int) (k : Int) (w : World) (h1 : 1 ≤ k) (h4 : k ≤ 4) (h0 : 0 ≤ n) (hn : n < 256 ^ k.toNat) :
    Calls Tryd.prog 89 #[.int .i64 n, .int .i64 k] w fun e w' => e = .returned (.string ⟨(be k.toNat n).toArray⟩) ∧ Below w.heap.size w w' := by
  obtain ⟨k, rfl⟩ := Int.eq_ofNat_of_zero_le (show 0 ≤ k by omega)
  rw [Int.toNat_natCast] at hn ⊢
  have Hp := Lib.hid (rput_ok n k w (by omega) (by omega) h0 hn)
  clear hn
  generalize be k n = l at *
  go_enter Tryd.func89, Tryd.ntmps89
  go_wp2_with (go_at_call 85; refine (Hp.out).mono ?_; rintro e w' ⟨rfl, hb⟩)
  go_ret
  exact ⟨rfl, hb⟩
def SumPostQ (x : ByteArray) (w : World) (e : Ending) (w' : World) : Prop := ∃ m : Int, e = .returned (.int .i64 m) ∧ Hid (m = csum x) ∧ 0 ≤ m ∧ m ≤ 65535 ∧ w = w'
theorem rchecksum_any' (s : ByteArray) (w : World) (hs : s.size ≤ 1000000) : Calls Tryd.prog 39 #[.string s] w (SumPostQ s w) :=
  (rchecksum_any s w hs).mono fun _ _ ⟨he, hw⟩ => ⟨_, he, Lib.hid rfl, (csum_bd _).1, (csum_bd _).2, hw⟩

set_option maxRecDepth 100000 in
set_option maxHeartbeats 4000000 in
theorem rhead_any (f t pr ttl id : Int) (df mf : Bool) (off : Int) (s : ByteArray) (len : Int) (w : World) (h0 : 0 ≤ len) (h : VLen f t pr ttl id df mf off len) :
    Calls Tryd.prog 76 #[.agg #[.int .i64 f, .int .i64 t, .int .i64 pr, .int .i64 ttl, .int .i64 id, .bool df, .bool mf, .int .i64 off, .string s], .int .i64 len] w fun e w' => e = .returned (.string ⟨(hdr f t pr ttl id df mf off len).toArray⟩) ∧ Below w.heap.size w w' := by
  obtain ⟨⟨a1, a2, a3, a4⟩, ⟨a5, a6, a7, a8, a9, a10⟩, ⟨a11, a12, a13, a14⟩, -, -, -⟩ := h
  have bl := be_length
  go_enter Tryd.func76, Tryd.ntmps76
  have HB := Below.refl w.heap.size w
  have Hp := Lib.hid (alloc_new' w (.cells #[.int .i64 f, .int .i64 t, .int .i64 pr, .int .i64 ttl, .int .i64 id, .bool df, .bool mf, .int .i64 off, .string s] 31) (w.heap.size) (by simp))
  have HB' := below_alloc (o := .cells #[.int .i64 f, .int .i64 t, .int .i64 pr, .int .i64 ttl, .int .i64 id, .bool df, .bool mf, .int .i64 off, .string s] 31) HB; clear HB; have HB := HB'; clear HB'
  have qp5 := (cell_of_block (k := 5) Hp.out rfl).1; have qp6 := (cell_of_block (k := 6) Hp.out rfl).1
  go_upto_if 9 with fail
  go_cut [5] (fun s5 wx => s5 = .int .i64 (if df then 1 else 0) ∧ wx = w.alloc (.cells #[.int .i64 f, .int .i64 t, .int .i64 pr, .int .i64 ttl, .int .i64 id, .bool df, .bool mf, .int .i64 off, .string s] 31))
  case first =>
    cases df <;> (go_wp2_with fail; go_meet; exact ⟨rfl, rfl⟩)
  case rest =>
    obtain ⟨rfl, rfl⟩ := hcut
    go_upto_if 13 with fail
    go_cut [5] (fun s5 wx => s5 = .int .i64 (flagsOf df mf) ∧ wx = w.alloc (.cells #[.int .i64 f, .int .i64 t, .int .i64 pr, .int .i64 ttl, .int .i64 id, .bool df, .bool mf, .int .i64 off, .string s] 31))
    case first =>
      cases df <;> cases mf <;> (go_wp2_with fail; go_meet; exact ⟨rfl, rfl⟩)
    case rest =>
      obtain ⟨rfl, rfl⟩ := hcut
      clear qp5 qp6
      have hfl := flagsOf_bd df mf; have hq8a : 0 ≤ off / 8 := (by omega); have hq8b : off / 8 ≤ 500 := (by omega)
      have hqd : IntKind.i64.wrap (off.tdiv 8) = off / 8 := by rw [Int.tdiv_eq_ediv_of_nonneg (by omega)]; exact IntWalk.i64_in _ (by omega)
      generalize hflq : flagsOf df mf = fl at *; have Hfl := Lib.hid hflq; clear hflq
      go_wp2_with fail
      go_region_held3 (fun w' => w'.cell? ⟨w.heap.size, 0, none⟩ = some (.int .i64 f) ∧ w'.cell? ⟨w.heap.size, 1, none⟩ = some (.int .i64 t) ∧ w'.cell? ⟨w.heap.size, 2, none⟩ = some (.int .i64 pr) ∧ w'.cell? ⟨w.heap.size, 3, none⟩ = some (.int .i64 ttl) ∧ w'.cell? ⟨w.heap.size, 4, none⟩ = some (.int .i64 id) ∧ w'.cell? ⟨w.heap.size, 7, none⟩ = some (.int .i64 off) ∧ w'.heap[w.heap.size]? = some (.cells #[.int .i64 f, .int .i64 t, .int .i64 pr, .int .i64 ttl, .int .i64 id, .bool df, .bool mf, .int .i64 off, .string s] 31) ∧ Below w.heap.size w w') (first | exact ⟨(cell_of_block Hp.out rfl).1, (cell_of_block Hp.out rfl).1, (cell_of_block Hp.out rfl).1, (cell_of_block Hp.out rfl).1, (cell_of_block Hp.out rfl).1, (cell_of_block Hp.out rfl).1, Hp.out, HB.drew⟩ | (go_split_ands; exact ⟨by assumption, by assumption, by assumption, by assumption, by assumption, by assumption, by assumption, by assumption⟩) | (go_split_ands; exact ⟨bcell (by assumption) (by assumption), bcell (by assumption) (by assumption), bcell (by assumption) (by assumption), bcell (by assumption) (by assumption), bcell (by assumption) (by assumption), bcell (by assumption) (by assumption), bblock (by assumption) (by assumption), below_call (by assumption) (by assumption)⟩) | (go_split_ands; exact ⟨cell_alloc' _ (by assumption), cell_alloc' _ (by assumption), cell_alloc' _ (by assumption), cell_alloc' _ (by assumption), cell_alloc' _ (by assumption), cell_alloc' _ (by assumption), block_alloc (by assumption) _, below_alloc (by assumption)⟩))
        (first | (go_at_call 89; refine (rnum_any _ _ _ (by omega) (by omega) (by omega) (by first | (simp; done) | (simp; omega))).mono ?_; rintro e a1 ⟨rfl, hb_a1⟩))
      rename_i hH
      obtain ⟨k0_, k1_, k2_, k3_, k4_, k5_, k6_, HB'⟩ := hH
      clear Hp; have Hp := Lib.hid k6_
      clear k0_ k1_ k2_ k3_ k4_ k5_ k6_
      clear HB; have HB := HB'; clear HB'
      have hz := HB.size
      have hF : Hid ((⟨(be 1 4).toArray⟩ ++ ⟨(be 4 f).toArray⟩ ++ ⟨(be 4 t).toArray⟩ ++ ⟨(be 1 pr).toArray⟩ ++ ⟨(be 1 ttl).toArray⟩ ++ ⟨(be 2 id).toArray⟩ ++ ⟨(be 1 fl).toArray⟩ ++ ⟨(be 2 (off / 8)).toArray⟩ ++ ⟨(be 2 len).toArray⟩ : ByteArray) = ⟨(front f t pr ttl id df mf off len).toArray⟩) := Lib.hid (by unfold front parts; rw [Hfl.out]; simp only [ba_append]; simp)
      generalize hL : (⟨(be 1 4).toArray⟩ ++ ⟨(be 4 f).toArray⟩ ++ ⟨(be 4 t).toArray⟩ ++ ⟨(be 1 pr).toArray⟩ ++ ⟨(be 1 ttl).toArray⟩ ++ ⟨(be 2 id).toArray⟩ ++ ⟨(be 1 fl).toArray⟩ ++ ⟨(be 2 (off / 8)).toArray⟩ ++ ⟨(be 2 len).toArray⟩ : ByteArray) = L at *
      have hLs : L.size ≤ 18 := by have h18 : L.size = 18 := (by rw [hF.out, sz, front_length]); omega
      clear hL
      go_wp2_with fail
      refine (rnum_any 0 2 _ (by omega) (by omega) (by omega) (by simp)).mono ?_
      rintro e w1 ⟨rfl, hb⟩
      have Hp' := Lib.hid (bblock hb Hp.out); clear Hp; have Hp := Hp'; clear Hp'
      have HB' := below_call HB hb; clear HB hb; have HB := HB'; clear HB'; have hz1 := HB.size
      have lt_p_1 := blk_lt Hp.out
      go_wp2_with fail
      refine (rchecksum_any' _ _ (by simp [ByteArray.size_append, sz, bl]; omega)).mono ?_
      rintro e w' ⟨sm, rfl, hsm, hs0, hs1, rfl⟩
      go_wp2_with fail
      refine (rnum_any sm 2 _ (by omega) (by omega) (by omega) (by simp; omega)).mono ?_
      rintro e w2 ⟨rfl, hb⟩
      have Hp' := Lib.hid (bblock hb Hp.out); clear Hp; have Hp := Hp'; clear Hp'
      have HB' := below_call HB hb; clear HB hb; have HB := HB'; clear HB'; have hz2 := HB.size
      have lt_p_2 := blk_lt Hp.out
      have hsz3 : ¬ 9223372036854775807 < L.size + 2 := by omega
      go_wp2_with fail
      go_ret
      refine ⟨ret_str ?_, HB⟩
      unfold hdr
      have e2 : (⟨(be 2 0).toArray⟩ : ByteArray) = ⟨#[0, 0]⟩ := by decide
      rw [hsm.out, e2, hF.out, ba_append2, ba_append]

theorem rEncode_ok (f t pr ttl id : Int) (df mf : Bool) (off : Int) (s : ByteArray) (w : World) (h : VLen f t pr ttl id df mf off s.size) :
    Calls Tryd.prog 53 #[.agg #[.int .i64 f, .int .i64 t, .int .i64 pr, .int .i64 ttl, .int .i64 id, .bool df, .bool mf, .int .i64 off, .string s]] w fun e w' => e = .returned (.tuple #[.string ⟨(hdr f t pr ttl id df mf off s.size ++ s.data.toList).toArray⟩, .int .i64 0]) ∧ Below w.heap.size w w' := by
  have hs : s.size ≤ 4000 := by unfold VLen at h; omega
  have HV : Hid (∀ w, Calls Tryd.prog 52 #[.agg #[.int .i64 f, .int .i64 t, .int .i64 pr, .int .i64 ttl, .int .i64 id, .bool df, .bool mf, .int .i64 off, .string s]] w fun e w' => e = .returned (.bool true) ∧ Below w.heap.size w w') := Lib.hid fun w => by
    have := rvalid_any f t pr ttl id df mf off s w (by omega)
    rwa [show vlenB f t pr ttl id df mf off s.size = true from decide_eq_true h] at this
  have HH := Lib.hid fun w => rhead_any f t pr ttl id df mf off s s.size w (by omega) h
  have hl := hdr_length f t pr ttl id df mf off s.size
  clear h
  generalize hdr f t pr ttl id df mf off s.size = R at *
  have hRl : R.length ≤ 20 := by omega
  clear hl
  go_enter Tryd.func53, Tryd.ntmps53
  have HB := Below.refl w.heap.size w
  have Hp := Lib.hid (alloc_new' w (.cells #[.int .i64 f, .int .i64 t, .int .i64 pr, .int .i64 ttl, .int .i64 id, .bool df, .bool mf, .int .i64 off, .string s] 31) (w.heap.size) (by simp))
  have HB' := below_alloc (o := .cells #[.int .i64 f, .int .i64 t, .int .i64 pr, .int .i64 ttl, .int .i64 id, .bool df, .bool mf, .int .i64 off, .string s] 31) HB; clear HB; have HB := HB'; clear HB'
  go_wp2_with fail
  refine (HV.out _).mono ?_
  rintro e w1 ⟨rfl, hb⟩
  have Hp' := Lib.hid (bblock hb Hp.out); clear Hp; have Hp := Hp'; clear Hp'
  have HB' := below_call HB hb; clear HB hb; have HB := HB'; clear HB'; have hz1 := HB.size
  have lt_p_1 := blk_lt Hp.out
  have Sp := cells9 Hp.out
  obtain ⟨⟨qp0, qp1, qp2, qp3, qp4, qp5, qp6, qp7, qp8⟩, zp0, zp1, zp2, zp3, zp4, zp5, zp6, zp7, zp8⟩ := Sp
  have lt_p := blk_lt Hp.out
  have hsz4 : ¬ 9223372036854775807 < R.length + s.size := by omega
  go_wp2_with fail
  clear qp0 zp0 qp1 zp1 qp2 zp2 qp3 zp3 qp4 zp4 qp5 zp5 qp6 zp6 qp7 zp7 qp8 zp8
  go_region_held3 (fun w' => w'.cell? ⟨w.heap.size, 0, none⟩ = some (.int .i64 f) ∧ w'.cell? ⟨w.heap.size, 1, none⟩ = some (.int .i64 t) ∧ w'.cell? ⟨w.heap.size, 2, none⟩ = some (.int .i64 pr) ∧ w'.cell? ⟨w.heap.size, 3, none⟩ = some (.int .i64 ttl) ∧ w'.cell? ⟨w.heap.size, 4, none⟩ = some (.int .i64 id) ∧ w'.cell? ⟨w.heap.size, 5, none⟩ = some (.bool df) ∧ w'.cell? ⟨w.heap.size, 6, none⟩ = some (.bool mf) ∧ w'.cell? ⟨w.heap.size, 7, none⟩ = some (.int .i64 off) ∧ w'.cell? ⟨w.heap.size, 8, none⟩ = some (.string s) ∧ w'.heap[w.heap.size]? = some (.cells #[.int .i64 f, .int .i64 t, .int .i64 pr, .int .i64 ttl, .int .i64 id, .bool df, .bool mf, .int .i64 off, .string s] 31) ∧ Below w.heap.size w w') (first | exact ⟨(cell_of_block Hp.out rfl).1, (cell_of_block Hp.out rfl).1, (cell_of_block Hp.out rfl).1, (cell_of_block Hp.out rfl).1, (cell_of_block Hp.out rfl).1, (cell_of_block Hp.out rfl).1, (cell_of_block Hp.out rfl).1, (cell_of_block Hp.out rfl).1, (cell_of_block Hp.out rfl).1, Hp.out, HB.drew⟩ | (go_split_ands; exact ⟨by assumption, by assumption, by assumption, by assumption, by assumption, by assumption, by assumption, by assumption, by assumption, by assumption, by assumption⟩) | (go_split_ands; exact ⟨bcell (by assumption) (by assumption), bcell (by assumption) (by assumption), bcell (by assumption) (by assumption), bcell (by assumption) (by assumption), bcell (by assumption) (by assumption), bcell (by assumption) (by assumption), bcell (by assumption) (by assumption), bcell (by assumption) (by assumption), bcell (by assumption) (by assumption), bblock (by assumption) (by assumption), below_call (by assumption) (by assumption)⟩) | (go_split_ands; exact ⟨cell_alloc' _ (by assumption), cell_alloc' _ (by assumption), cell_alloc' _ (by assumption), cell_alloc' _ (by assumption), cell_alloc' _ (by assumption), cell_alloc' _ (by assumption), cell_alloc' _ (by assumption), cell_alloc' _ (by assumption), cell_alloc' _ (by assumption), block_alloc (by assumption) _, below_alloc (by assumption)⟩))
    (first | (go_at_call 76; refine (HH.out _).mono ?_; rintro e w9 ⟨rfl, hb9⟩))
  rename_i hH
  obtain ⟨k0_, k1_, k2_, k3_, k4_, k5_, k6_, k7_, k8_, k9_, HB'⟩ := hH
  clear Hp; have Hp := Lib.hid k9_
  clear k0_ k1_ k2_ k3_ k4_ k5_ k6_ k7_ k8_ k9_
  clear HB; have HB := HB'; clear HB'
  have hz := HB.size
  go_wp2_with fail
  go_ret2
  exact ⟨ret2_str (ba_append_s R s), HB⟩

theorem rEncode_no (f t pr ttl id : Int) (df mf : Bool) (off : Int) (s : ByteArray) (w : World) (hs : s.size ≤ 1000000) (h : ¬ VLen f t pr ttl id df mf off s.size) :
    Calls Tryd.prog 53 #[.agg #[.int .i64 f, .int .i64 t, .int .i64 pr, .int .i64 ttl, .int .i64 id, .bool df, .bool mf, .int .i64 off, .string s]] w fun e w' => e = .returned (.tuple #[.string ⟨#[]⟩, .int .i64 60]) ∧ Below w.heap.size w w' := by
  have HV : Hid (∀ w, Calls Tryd.prog 52 #[.agg #[.int .i64 f, .int .i64 t, .int .i64 pr, .int .i64 ttl, .int .i64 id, .bool df, .bool mf, .int .i64 off, .string s]] w fun e w' => e = .returned (.bool false) ∧ Below w.heap.size w w') := Lib.hid fun w => by
    have := rvalid_any f t pr ttl id df mf off s w hs
    rwa [show vlenB f t pr ttl id df mf off s.size = false from decide_eq_false h] at this
  clear h
  go_enter Tryd.func53, Tryd.ntmps53
  go_wp2_with fail
  refine (HV.out _).mono ?_
  rintro e w1 ⟨rfl, hb1⟩
  go_wp2_with fail
  go_ret2
  exact ⟨rfl, below_call (below_alloc (Below.refl _ _)) hb1⟩
end Go.Proofs.YtmcfllogcmnnoaaDoor.Ip
