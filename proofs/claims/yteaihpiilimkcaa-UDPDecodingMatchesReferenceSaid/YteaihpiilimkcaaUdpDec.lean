/-
  The walk of the law UDPDecodingMatchesReference.
-/
import Derived.Test.YteaihpiilimkcaaUdpRef
import Derived.Test.YteaihpiilimkcaaRef01
import Derived.Test.YteaihpiilimkcaaBase1
import Derived.Deep.DeepCutAuto
import Derived.Outline
namespace Go.Proofs.Yteaihpiilimkcaa.Udp
open Go.RowKit Go.Proofs.Yteaihpiilimkcaa.Wire Go.Proofs.Yteaihpiilimkcaa.Gen

theorem cells5s {W : World} {bk k : Nat} {R : List UInt8} {few : ByteArray} {by_ : Int} (h : W.heap[bk]? = some (.cells #[.string few, .string ⟨R.toArray⟩, .string (⟨R.toArray⟩ ++ few), .string ((⟨R.toArray⟩ : ByteArray).extract 0 k), .string ((⟨R.toArray⟩ : ByteArray).extract 0 k ++ ⟨#[UInt8.ofNat by_.toNat]⟩ ++ (⟨R.toArray⟩ : ByteArray).extract (k + 1) R.length)] 9)) (hR : R.length ≤ 208) (hf : few.size ≤ 80) (k2 : Nat) (hk : k2 < 5) :
    ∃ s : ByteArray, s.size ≤ 9223372036854775807 ∧ W.cell? ⟨bk, k2, none⟩ = some (.string s) := by
  match k2, hk with
  | 0, _ => exact ⟨_, by omega, (cell_of_block h rfl).1⟩
  | 1, _ => exact ⟨_, by simp only [sz]; omega, (cell_of_block h rfl).1⟩
  | 2, _ => exact ⟨_, by simp only [sz, ByteArray.size_append]; omega, (cell_of_block h rfl).1⟩
  | 3, _ => exact ⟨_, by simp only [sz, ByteArray.size_extract]; omega, (cell_of_block h rfl).1⟩
  | 4, _ => exact ⟨_, by simp [sz, ByteArray.size_append, ByteArray.size_extract]; omega, (cell_of_block h rfl).1⟩
theorem cells8p {W : World} {bk : Nat} {A B from_ to_ : Int} (h : W.heap[bk]? = some (.cells #[.int .i64 A, .int .i64 B, .int .i64 B, .int .i64 A, .int .i64 from_, .int .i64 to_, .int .i64 A, .int .i64 to_] 31)) (k : Nat) (hk : k < 4) :
    ∃ (f t : Int), W.cell? ⟨bk, k * 2, none⟩ = some (.int .i64 f) ∧ W.cell? ⟨bk, k * 2 + 1, none⟩ = some (.int .i64 t) := by
  match k, hk with
  | 0, _ => exact ⟨_, _, (cell_of_block h rfl).1, (cell_of_block h rfl).1⟩
  | 1, _ => exact ⟨_, _, (cell_of_block h rfl).1, (cell_of_block h rfl).1⟩
  | 2, _ => exact ⟨_, _, (cell_of_block h rfl).1, (cell_of_block h rfl).1⟩
  | 3, _ => exact ⟨_, _, (cell_of_block h rfl).1, (cell_of_block h rfl).1⟩
set_option maxRecDepth 100000 in
set_option maxHeartbeats 4000000 in
theorem dec_walk (x0 x1 x2 x3 x4 from_ to_ at_ by_ fx tx : Int) (xs s : ByteArray) (lx R : List UInt8) (w : World) (hx0 : -9223372036854775808 ≤ x0 ∧ x0 ≤ 9223372036854775807) (hx1 : -9223372036854775808 ≤ x1 ∧ x1 ≤ 9223372036854775807) (hat : -9223372036854775808 ≤ at_ ∧ at_ ≤ 9223372036854775807) (hs : s.size ≤ 9223372036854775807)
    (hR1 : 8 ≤ R.length) (hR2 : R.length ≤ 208)
    (hx : ∀ w, Calls Try.prog 8 #[.agg #[.int .i64 x0, .int .i64 x1, .int .i64 x2, .int .i64 x3, .int .i64 x4, .string xs]] w fun e w' => e = .returned (.agg #[.int .i64 fx, .int .i64 tx, .string ⟨lx.toArray⟩]) ∧ Below w.heap.size w w')
    (he : ∀ w, Calls Try.prog 13 #[.int .i64 (addrOf x0), .int .i64 (addrOf x1), .agg #[.int .i64 fx, .int .i64 tx, .string ⟨lx.toArray⟩]] w fun e w' => e = .returned (.tuple #[.string ⟨R.toArray⟩, .int .i64 0]) ∧ Below w.heap.size w w') :
    Calls Try.prog 4 #[.agg #[.int .i64 x0, .int .i64 x1, .int .i64 x2, .int .i64 x3, .int .i64 x4, .string xs], .string s, .int .i64 from_, .int .i64 to_, .int .i64 at_, .int .u8 by_] w fun e w' => e = .returned (.bool true) ∧ Below w.heap.size w w' := by
  have HX := Lib.hid hx
  have HE := Lib.hid he
  clear hx he
  go_enter Try.func4, Try.ntmps4
  have HB := Below.refl w.heap.size w
  have Hx := Lib.hid (alloc_new' w (.cells #[.int .i64 x0, .int .i64 x1, .int .i64 x2, .int .i64 x3, .int .i64 x4, .string xs] 23) (w.heap.size) (by simp))
  have HB' := below_alloc (o := .cells #[.int .i64 x0, .int .i64 x1, .int .i64 x2, .int .i64 x3, .int .i64 x4, .string xs] 23) HB; clear HB; have HB := HB'; clear HB'
  go_wp2_with fail
  refine (sane_any _).mono ?_
  rintro e w1 ⟨rfl, hb⟩
  have Hx' := Lib.hid (bblock hb Hx.out); clear Hx; have Hx := Hx'; clear Hx'
  have HB' := below_call HB hb; clear HB hb; have HB := HB'; clear HB'; have hz1 := HB.size
  have Sx := cells6 Hx.out
  obtain ⟨⟨qx0, qx1, qx2, qx3, qx4, qx5⟩, zx0, zx1, zx2, zx3, zx4, zx5⟩ := Sx
  have lt_x := blk_lt Hx.out
  go_wp2_with fail
  refine (addressFrom_any _ _ hx0.1 hx0.2).mono ?_
  rintro e w' ⟨rfl, rfl⟩
  go_wp2_with fail
  refine (addressFrom_any _ _ hx1.1 hx1.2).mono ?_
  rintro e w' ⟨rfl, rfl⟩
  generalize addrOf x0 = A at *
  generalize addrOf x1 = B at *
  go_wp2_with fail
  refine (HX.out _).mono ?_
  rintro e w2 ⟨rfl, hb⟩
  have Hx' := Lib.hid (bblock hb Hx.out); clear Hx; have Hx := Hx'; clear Hx'
  have HB' := below_call HB hb; clear HB hb; have HB := HB'; clear HB'; have hz2 := HB.size
  clear qx0 zx0 qx1 zx1 qx2 zx2 qx3 zx3 qx4 zx4 qx5 zx5
  go_wp2_with fail
  refine (HE.out _).mono ?_
  rintro e w3 ⟨rfl, hb⟩
  have Hx' := Lib.hid (bblock hb Hx.out); clear Hx; have Hx := Hx'; clear Hx'
  have HB' := below_call HB hb; clear HB hb; have HB := HB'; clear HB'; have hz3 := HB.size
  clear Hx
  go_wp2_with fail
  rw [show max ((R.length : Int)) 1 = (R.length : Int) from by omega]
  have hkb := pick_lt at_ (R.length : Int) (by omega)
  have HK := Lib.hid fun w => pick_any at_ (R.length : Int) w hat.1 hat.2 (by omega) (by omega)
  obtain ⟨k, hk⟩ := Int.eq_ofNat_of_zero_le hkb.1
  rw [hk] at hkb HK; clear hk
  refine (HK.out _).mono ?_
  rintro e w' ⟨rfl, rfl⟩
  go_upto_region 7 with fail
  generalize hfew : s.extract 0 (min (s.size : Int) 80).toNat = few at *
  have hfs : few.size ≤ 80 := by rw [← hfew]; simp; omega
  clear hfew
  have b1 : (0 : Int) ≤ (k : Int) := by omega
  have b3 : (k : Int) ≤ (R.length : Int) := by omega
  have b4 : (k : Int) + 1 ≤ (R.length : Int) := by omega
  have b5 : (0 : Int) ≤ (k : Int) + 1 := by omega
  have b6 : IntKind.i64.wrap ((k : Int) + 1) = (k : Int) + 1 := IntWalk.i64_in _ (by omega)
  have b7 : ((k : Int) + 1).toNat = k + 1 := by omega
  have b8 : min ((k : Int) + 1) (R.length : Int) = (k : Int) + 1 := by omega
  have hq1 : ¬ 9223372036854775807 < R.length + few.size := by omega
  have hcv := conv_one
  go_cut [76, 77, 78] (fun s76 s77 s78 wx => s76 = .slice (some ⟨w3.heap.size + 1, 0, none⟩) 5 5 ∧ s77 = .int .i64 5 ∧ s78 = .int .i64 0 ∧ Below w.heap.size w wx ∧ wx.heap[w3.heap.size + 1]? = some (.cells #[.string few, .string ⟨R.toArray⟩, .string (⟨R.toArray⟩ ++ few), .string ((⟨R.toArray⟩ : ByteArray).extract 0 k), .string ((⟨R.toArray⟩ : ByteArray).extract 0 k ++ ⟨#[UInt8.ofNat by_.toNat]⟩ ++ (⟨R.toArray⟩ : ByteArray).extract (k + 1) R.length)] 9))
  case first =>
    go_region
    all_goals
      go_wp2_with fail
      go_meet
      exact ⟨rfl, rfl, rfl, by repeat (first | exact HB | apply Below.drew | apply below_alloc), alloc_new' _ _ _ (by simp)⟩
  case rest =>
    clear HB
    obtain ⟨rfl, rfl, rfl, HB, HS⟩ := hcut
    have HS := Lib.hid HS
    clear b1 b3 b4 b5 b6 b7 b8 hq1 hcv
    go_wp2_with fail
    go_loopw [21, 78] (fun _ i wr => ∃ k2 : Nat, k2 ≤ 5 ∧ i = .int .i64 (k2 : Int) ∧ Below w.heap.size w wr ∧ wr.heap[w3.heap.size + 1]? = some (.cells #[.string few, .string ⟨R.toArray⟩, .string (⟨R.toArray⟩ ++ few), .string ((⟨R.toArray⟩ : ByteArray).extract 0 k), .string ((⟨R.toArray⟩ : ByteArray).extract 0 k ++ ⟨#[UInt8.ofNat by_.toNat]⟩ ++ (⟨R.toArray⟩ : ByteArray).extract (k + 1) R.length)] 9)) (fun _ i _ => 5 - (intOf i).toNat)
    case atStart => exact ⟨0, by omega, rfl, HB, HS.out⟩
    case round =>
      clear HB HS
      obtain ⟨k2, hk2, rfl, HB, HS⟩ := hrel
      obtain ⟨wo, rfl⟩ : ∃ wo : World, wo = wr := ⟨_, rfl⟩
      have HS := Lib.hid HS
      by_cases hlt : k2 < 5
      · obtain ⟨s, hsz, c0⟩ := cells5s HS.out (by omega) hfs k2 hlt
        have hlt_S := blk_lt HS.out; have hdk : decide ((k2 : Int) < 5) = true := by simp; omega
        go_wp2_with fail
        clear c0
        have Hp := Lib.hid (alloc_new' wo (.cells #[.int .i64 A, .int .i64 B, .int .i64 B, .int .i64 A, .int .i64 from_, .int .i64 to_, .int .i64 A, .int .i64 to_] 31) (wo.heap.size) (by simp))
        have HS' := Lib.hid (block_alloc HS.out (.cells #[.int .i64 A, .int .i64 B, .int .i64 B, .int .i64 A, .int .i64 from_, .int .i64 to_, .int .i64 A, .int .i64 to_] 31)); clear HS; have HS := HS'; clear HS'
        have HB' := below_alloc (o := .cells #[.int .i64 A, .int .i64 B, .int .i64 B, .int .i64 A, .int .i64 from_, .int .i64 to_, .int .i64 A, .int .i64 to_] 31) HB; clear HB; have HB := HB'; clear HB'
        go_loopw [96] (fun i wr => ∃ j : Nat, j ≤ 4 ∧ i = .int .i64 (j : Int) ∧ Below w.heap.size w wr ∧ wr.heap[w3.heap.size + 1]? = some (.cells #[.string few, .string ⟨R.toArray⟩, .string (⟨R.toArray⟩ ++ few), .string ((⟨R.toArray⟩ : ByteArray).extract 0 k), .string ((⟨R.toArray⟩ : ByteArray).extract 0 k ++ ⟨#[UInt8.ofNat by_.toNat]⟩ ++ (⟨R.toArray⟩ : ByteArray).extract (k + 1) R.length)] 9) ∧ wr.heap[wo.heap.size]? = some (.cells #[.int .i64 A, .int .i64 B, .int .i64 B, .int .i64 A, .int .i64 from_, .int .i64 to_, .int .i64 A, .int .i64 to_] 31)) (fun i _ => 4 - (intOf i).toNat)
        case atStart => exact ⟨0, by omega, rfl, HB, HS.out, Hp.out⟩
        case round =>
          clear HB HS Hp
          obtain ⟨j, hj, rfl, HB, HS, Hp⟩ := hrel
          obtain ⟨wi, rfl⟩ : ∃ wi : World, wi = wr := ⟨_, rfl⟩
          have HS := Lib.hid HS; have Hp := Lib.hid Hp
          by_cases hjt : j < 4
          · obtain ⟨a1, b1, d0, d1⟩ := cells8p Hp.out j hjt
            obtain ⟨f, t, x, hV⟩ := decV_form a1 b1 s
            have HD := Lib.hid fun w => Decode_any a1 b1 s w hsz; have HR := Lib.hid fun w => rDecode_any a1 b1 s w hsz
            rw [hV] at HD HR; clear hV; generalize decN a1 b1 s = N at *
            go_wp2_with fail
            have Hz := Lib.hid (alloc_new' wi (.cells #[.int .i64 a1, .int .i64 b1] 31) (wi.heap.size) (by simp))
            have HS' := Lib.hid (block_alloc HS.out (.cells #[.int .i64 a1, .int .i64 b1] 31)); clear HS; have HS := HS'; clear HS'
            have Hp' := Lib.hid (block_alloc Hp.out (.cells #[.int .i64 a1, .int .i64 b1] 31)); clear Hp; have Hp := Hp'; clear Hp'
            have HB' := below_alloc (o := .cells #[.int .i64 a1, .int .i64 b1] 31) HB; clear HB; have HB := HB'; clear HB'
            clear d0 d1
            refine (HD.out _).mono ?_
            rintro e w4 ⟨rfl, hb⟩
            have HS' := Lib.hid (bblock hb HS.out); clear HS; have HS := HS'; clear HS'
            have Hp' := Lib.hid (bblock hb Hp.out); clear Hp; have Hp := Hp'; clear Hp'
            have Hz' := Lib.hid (bblock hb Hz.out); clear Hz; have Hz := Hz'; clear Hz'
            have HB' := below_call HB hb; clear HB hb; have HB := HB'; clear HB'; have hz4 := HB.size
            have Hv := Lib.hid (alloc_new' w4 (.cells #[.int .i64 f, .int .i64 t, .string x] 26) (w4.heap.size) (by simp))
            have HS' := Lib.hid (block_alloc HS.out (.cells #[.int .i64 f, .int .i64 t, .string x] 26)); clear HS; have HS := HS'; clear HS'
            have Hp' := Lib.hid (block_alloc Hp.out (.cells #[.int .i64 f, .int .i64 t, .string x] 26)); clear Hp; have Hp := Hp'; clear Hp'
            have Hz' := Lib.hid (block_alloc Hz.out (.cells #[.int .i64 f, .int .i64 t, .string x] 26)); clear Hz; have Hz := Hz'; clear Hz'
            have HB' := below_alloc (o := .cells #[.int .i64 f, .int .i64 t, .string x] 26) HB; clear HB; have HB := HB'; clear HB'
            have Sv := cells3 Hv.out
            obtain ⟨⟨qv0, qv1, qv2⟩, zv0, zv1, zv2⟩ := Sv
            have lt_v := blk_lt Hv.out
            have Sz := cells2 Hz.out
            obtain ⟨⟨qz0, qz1⟩, zz0, zz1⟩ := Sz
            have lt_z := blk_lt Hz.out
            go_wp2_with fail
            refine (HR.out _).mono ?_
            rintro e w5 ⟨rfl, hb⟩
            clear qv0 zv0 qv1 zv1 qv2 zv2
            clear qz0 zz0 qz1 zz1
            have HS' := Lib.hid (bblock hb HS.out); clear HS; have HS := HS'; clear HS'
            have Hp' := Lib.hid (bblock hb Hp.out); clear Hp; have Hp := Hp'; clear Hp'
            have Hz' := Lib.hid (bblock hb Hz.out); clear Hz; have Hz := Hz'; clear Hz'
            have Hv' := Lib.hid (bblock hb Hv.out); clear Hv; have Hv := Hv'; clear Hv'
            have HB' := below_call HB hb; clear HB hb; have HB := HB'; clear HB'; have hz5 := HB.size
            have Hy := Lib.hid (alloc_new' w5 (.cells #[.int .i64 f, .int .i64 t, .string x] 26) (w5.heap.size) (by simp))
            have HS' := Lib.hid (block_alloc HS.out (.cells #[.int .i64 f, .int .i64 t, .string x] 26)); clear HS; have HS := HS'; clear HS'
            have Hp' := Lib.hid (block_alloc Hp.out (.cells #[.int .i64 f, .int .i64 t, .string x] 26)); clear Hp; have Hp := Hp'; clear Hp'
            have Hz' := Lib.hid (block_alloc Hz.out (.cells #[.int .i64 f, .int .i64 t, .string x] 26)); clear Hz; have Hz := Hz'; clear Hz'
            have Hv' := Lib.hid (block_alloc Hv.out (.cells #[.int .i64 f, .int .i64 t, .string x] 26)); clear Hv; have Hv := Hv'; clear Hv'
            have HB' := below_alloc (o := .cells #[.int .i64 f, .int .i64 t, .string x] 26) HB; clear HB; have HB := HB'; clear HB'
            have Sv := cells3 Hv.out
            obtain ⟨⟨qv0, qv1, qv2⟩, zv0, zv1, zv2⟩ := Sv
            have lt_v := blk_lt Hv.out
            have Sy := cells3 Hy.out
            obtain ⟨⟨qy0, qy1, qy2⟩, zy0, zy1, zy2⟩ := Sy
            have lt_y := blk_lt Hy.out
            have hNN : (N != N) = false := by simp
            go_wp2_with fail
            go_roundw
            case rel => first | exact ⟨j + 1, by omega, by go_num, HB, HS.out, Hp.out⟩ | ((repeat apply Exists.intro); exact ⟨⟨j + 1, by omega, by go_num, HB, HS.out, Hp.out⟩, rfl⟩)
            case measure => simp [intOf]; omega
          · go_wp2_with fail
            go_roundw
            case rel => first | exact ⟨k2 + 1, by omega, by go_num, HB, HS.out⟩ | ((repeat apply Exists.intro); exact ⟨⟨k2 + 1, by omega, by go_num, HB, HS.out⟩, rfl⟩)
            case measure => simp [intOf]; omega
      · go_wp2_with fail
        go_ret
        exact ⟨rfl, HB⟩

end Go.Proofs.Yteaihpiilimkcaa.Udp
